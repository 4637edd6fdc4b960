/- Joined texts of the claim LeaseMost (part 45): contracts of functions and plain laws. -/
import Derived.Test.YtlmefnifhbcbcaaJLeaseMost23
import Derived.Test.YtlmefnifhbcbcaaJLeaseMost44
section
/- What the laws' arguments read as: leases. -/
namespace Go.Proofs.Ytlmefnifhbcbcaa.PAll
open Go.RowKit Go.Proofs.YtlmefnifhbcbcaaW.PrintWords Go.Proofs.Ytlmefnifhbcbcaa
set_option linter.unusedVariables false
structure S31 where
  f0 : S28
  f1 : Int
  f2 : Int
  f3 : (List S39)
  f4 : Int
  f5 : Int
structure S37 where
  f0 : S28
  f1 : Int
  f2 : (List S39)
  f3 : Int
  f4 : Int
def k37 : Kd S37 := Kd.iso (Kd.pair k28 (Kd.pair (Kd.int .u64) (Kd.pair (Kd.slice 39 k39) (Kd.pair (Kd.int .u64) (Kd.int .u64))))) (fun x : S37 => (x.f0, x.f1, x.f2, x.f3, x.f4))
structure S42 where
  f0 : Int
  f1 : Int
  f2 : Int
  f3 : Int
  f4 : Int
theorem lenAt2 {α : Type _} {cs : List α} (h : cs.length = 2) : ∃ c0 c1, cs = [c0, c1] := by
  match cs, h with
  | [c0, c1], _ => exact ⟨_, _, rfl⟩
theorem lenAt5 {α : Type _} {cs : List α} (h : cs.length = 5) : ∃ c0 c1 c2 c3 c4, cs = [c0, c1, c2, c3, c4] := by
  match cs, h with
  | [c0, c1, c2, c3, c4], _ => exact ⟨_, _, _, _, _, rfl⟩
theorem lenAt6 {α : Type _} {cs : List α} (h : cs.length = 6) : ∃ c0 c1 c2 c3 c4 c5, cs = [c0, c1, c2, c3, c4, c5] := by
  match cs, h with
  | [c0, c1, c2, c3, c4, c5], _ => exact ⟨_, _, _, _, _, _, rfl⟩
def ok28 (x : S28) : Prop := (fun l => l.length * Try.prog.bytesOf 22 ≤ 140737488351232 ∧ ∀ x ∈ l, (fun n : Int => (Lit.int .u64 n).wf = true) x) x.f0 ∧ (fun l => l.length * Try.prog.bytesOf 22 ≤ 140737488351232 ∧ ∀ x ∈ l, (fun n : Int => (Lit.int .u64 n).wf = true) x) x.f1
theorem cells28 : Try.prog.cellsOf 28 = 2 := by kernel_rfl
set_option maxRecDepth 100000 in
theorem opens28 : Opens Try.prog 28 k28 ok28 := by
  intro H enc w base spare held fuel cs x ps h hw
  obtain ⟨xs, n, _, hx, hl, hlen, hf⟩ := DataW.trod_struct Try.underlying28 h
  simp only [Prod.mk.injEq] at hx
  obtain ⟨rfl, _⟩ := hx
  obtain ⟨y0, y1, rfl⟩ : ∃ y0 y1, xs = [y0, y1] := by
    have hz : xs.length = 2 := by rw [hlen]; rfl
    exact lenAt2 hz
  obtain ⟨c0, c1, rfl⟩ := lenAt2 (hl.trans cells28)
  have h0 : DataW.trod enc Try.prog w base spare held n 26 [c0] = some y0 := hf 0 _ rfl
  have h1 : DataW.trod enc Try.prog w base spare held n 26 [c1] = some y1 := hf 1 _ rfl
  simp only [DataW.weights, Try.underlying28, List.map_cons, List.map_nil, DataW.weightsEach, List.mem_append] at hw
  obtain ⟨a0, k0_, s0⟩ := (Opens.slice Try.underlying26 (by kernel_rfl) (Opens.int (k := .u64) Try.underlying22)) H enc w base spare held n _ y0.1 y0.2 h0 (fun q hq => hw q (.inl hq))
  obtain ⟨a1, k1_, s1⟩ := (Opens.slice Try.underlying26 (by kernel_rfl) (Opens.int (k := .u64) Try.underlying22)) H enc w base spare held n _ y1.1 y1.2 h1 (fun q hq => hw q (.inr (.inl hq)))
  exact ⟨⟨a0, a1⟩, ⟨[c0], [c1], rfl, k0_, k1_⟩, s0, s1⟩
def ok39 (x : S39) : Prop := (fun n : Int => (Lit.int .u64 n).wf = true) x.f0 ∧ (fun n : Int => (Lit.int .u64 n).wf = true) x.f1
theorem cells39 : Try.prog.cellsOf 39 = 2 := by kernel_rfl
set_option maxRecDepth 100000 in
theorem opens39 : Opens Try.prog 39 k39 ok39 := by
  intro H enc w base spare held fuel cs x ps h hw
  obtain ⟨xs, n, _, hx, hl, hlen, hf⟩ := DataW.trod_struct Try.underlying39 h
  simp only [Prod.mk.injEq] at hx
  obtain ⟨rfl, _⟩ := hx
  obtain ⟨y0, y1, rfl⟩ : ∃ y0 y1, xs = [y0, y1] := by
    have hz : xs.length = 2 := by rw [hlen]; rfl
    exact lenAt2 hz
  obtain ⟨c0, c1, rfl⟩ := lenAt2 (hl.trans cells39)
  have h0 : DataW.trod enc Try.prog w base spare held n 22 [c0] = some y0 := hf 0 _ rfl
  have h1 : DataW.trod enc Try.prog w base spare held n 22 [c1] = some y1 := hf 1 _ rfl
  simp only [DataW.weights, Try.underlying39, List.map_cons, List.map_nil, DataW.weightsEach, List.mem_append] at hw
  obtain ⟨a0, k0_, s0⟩ := (Opens.int (k := .u64) Try.underlying22) H enc w base spare held n _ y0.1 y0.2 h0 (fun q hq => hw q (.inl hq))
  obtain ⟨a1, k1_, s1⟩ := (Opens.int (k := .u64) Try.underlying22) H enc w base spare held n _ y1.1 y1.2 h1 (fun q hq => hw q (.inr (.inl hq)))
  exact ⟨⟨a0, a1⟩, ⟨[c0], [c1], rfl, k0_, k1_⟩, s0, s1⟩
def ok37 (x : S37) : Prop := ok28 x.f0 ∧ (fun n : Int => (Lit.int .u64 n).wf = true) x.f1 ∧ (fun l => l.length * Try.prog.bytesOf 39 ≤ 140737488351232 ∧ ∀ x ∈ l, ok39 x) x.f2 ∧ (fun n : Int => (Lit.int .u64 n).wf = true) x.f3 ∧ (fun n : Int => (Lit.int .u64 n).wf = true) x.f4
theorem cells37 : Try.prog.cellsOf 37 = 6 := by kernel_rfl
set_option maxRecDepth 100000 in
theorem opens37 : Opens Try.prog 37 k37 ok37 := by
  intro H enc w base spare held fuel cs x ps h hw
  obtain ⟨xs, n, _, hx, hl, hlen, hf⟩ := DataW.trod_struct Try.underlying37 h
  simp only [Prod.mk.injEq] at hx
  obtain ⟨rfl, _⟩ := hx
  obtain ⟨y0, y1, y2, y3, y4, rfl⟩ : ∃ y0 y1 y2 y3 y4, xs = [y0, y1, y2, y3, y4] := by
    have hz : xs.length = 5 := by rw [hlen]; rfl
    exact lenAt5 hz
  obtain ⟨c0, c1, c2, c3, c4, c5, rfl⟩ := lenAt6 (hl.trans cells37)
  have h0 : DataW.trod enc Try.prog w base spare held n 28 [c0, c1] = some y0 := hf 0 _ rfl
  have h1 : DataW.trod enc Try.prog w base spare held n 22 [c2] = some y1 := hf 1 _ rfl
  have h2 : DataW.trod enc Try.prog w base spare held n 29 [c3] = some y2 := hf 2 _ rfl
  have h3 : DataW.trod enc Try.prog w base spare held n 22 [c4] = some y3 := hf 3 _ rfl
  have h4 : DataW.trod enc Try.prog w base spare held n 22 [c5] = some y4 := hf 4 _ rfl
  simp only [DataW.weights, Try.underlying37, List.map_cons, List.map_nil, DataW.weightsEach, List.mem_append] at hw
  obtain ⟨a0, k0_, s0⟩ := opens28 H enc w base spare held n _ y0.1 y0.2 h0 (fun q hq => hw q (.inl hq))
  obtain ⟨a1, k1_, s1⟩ := (Opens.int (k := .u64) Try.underlying22) H enc w base spare held n _ y1.1 y1.2 h1 (fun q hq => hw q (.inr (.inl hq)))
  obtain ⟨a2, k2_, s2⟩ := (Opens.slice Try.underlying29 (by kernel_rfl) opens39) H enc w base spare held n _ y2.1 y2.2 h2 (fun q hq => hw q (.inr (.inr (.inl hq))))
  obtain ⟨a3, k3_, s3⟩ := (Opens.int (k := .u64) Try.underlying22) H enc w base spare held n _ y3.1 y3.2 h3 (fun q hq => hw q (.inr (.inr (.inr (.inl hq)))))
  obtain ⟨a4, k4_, s4⟩ := (Opens.int (k := .u64) Try.underlying22) H enc w base spare held n _ y4.1 y4.2 h4 (fun q hq => hw q (.inr (.inr (.inr (.inr (.inl hq))))))
  exact ⟨⟨a0, a1, a2, a3, a4⟩, ⟨[c0, c1], [c2, c3, c4, c5], rfl, k0_, ⟨[c2], [c3, c4, c5], rfl, k1_, ⟨[c3], [c4, c5], rfl, k2_, ⟨[c4], [c5], rfl, k3_, k4_⟩⟩⟩⟩, s0, s1, s2, s3, s4⟩
end Go.Proofs.Ytlmefnifhbcbcaa.PAll
end
