/- Joined texts of the claim DriveCommits (part 15): contracts of functions and plain laws. -/
import Derived.Test.YtkennobdoldlkaaJDriveCommits1
import Derived.Test.YtkennobdoldlkaaJDriveCommits14
section
/- What the laws' arguments read as: plans, answers, drives. -/
namespace Go.Proofs.Ytkennobdoldlkaa.PAll
open Go.RowKit Go.Proofs.YtkennobdoldlkaaW.PrintWords Go.Proofs.Ytkennobdoldlkaa
set_option linter.unusedVariables false
structure S33 where
  f0 : Int
  f1 : ByteArray
  f2 : Int
  f3 : Bool
  f4 : Bool
def k33 : Kd S33 := Kd.iso (Kd.pair (Kd.int .i64) (Kd.pair Kd.string (Kd.pair (Kd.int .u64) (Kd.pair Kd.bool Kd.bool)))) (fun x : S33 => (x.f0, x.f1, x.f2, x.f3, x.f4))
structure S30 where
  f0 : S27
  f1 : Int
  f2 : Int
  f3 : Bool
  f4 : Bool
  f5 : Bool
  f6 : (List S51)
theorem lenAt2 {α : Type _} {cs : List α} (h : cs.length = 2) : ∃ c0 c1, cs = [c0, c1] := by
  match cs, h with
  | [c0, c1], _ => exact ⟨_, _, rfl⟩
theorem lenAt3 {α : Type _} {cs : List α} (h : cs.length = 3) : ∃ c0 c1 c2, cs = [c0, c1, c2] := by
  match cs, h with
  | [c0, c1, c2], _ => exact ⟨_, _, _, rfl⟩
theorem lenAt5 {α : Type _} {cs : List α} (h : cs.length = 5) : ∃ c0 c1 c2 c3 c4, cs = [c0, c1, c2, c3, c4] := by
  match cs, h with
  | [c0, c1, c2, c3, c4], _ => exact ⟨_, _, _, _, _, rfl⟩
def ok53 (x : S53) : Prop := (fun n : Int => (Lit.int .u64 n).wf = true) x.f0 ∧ (fun s : ByteArray => s.size ≤ 140737488351232) x.f1 ∧ (fun s : ByteArray => s.size ≤ 140737488351232) x.f2 ∧ (fun _ : Bool => True) x.f3 ∧ (fun _ : Bool => True) x.f4
theorem cells53 : Try.prog.cellsOf 53 = 5 := by kernel_rfl
set_option maxRecDepth 100000 in
theorem opens53 : Opens Try.prog 53 k53 ok53 := by
  intro H enc w base spare held fuel cs x ps h hw
  obtain ⟨xs, n, _, hx, hl, hlen, hf⟩ := DataW.trod_struct Try.underlying53 h
  simp only [Prod.mk.injEq] at hx
  obtain ⟨rfl, _⟩ := hx
  obtain ⟨y0, y1, y2, y3, y4, rfl⟩ : ∃ y0 y1 y2 y3 y4, xs = [y0, y1, y2, y3, y4] := by
    have hz : xs.length = 5 := by rw [hlen]; rfl
    exact lenAt5 hz
  obtain ⟨c0, c1, c2, c3, c4, rfl⟩ := lenAt5 (hl.trans cells53)
  have h0 : DataW.trod enc Try.prog w base spare held n 22 [c0] = some y0 := hf 0 _ rfl
  have h1 : DataW.trod enc Try.prog w base spare held n 9 [c1] = some y1 := hf 1 _ rfl
  have h2 : DataW.trod enc Try.prog w base spare held n 9 [c2] = some y2 := hf 2 _ rfl
  have h3 : DataW.trod enc Try.prog w base spare held n 4 [c3] = some y3 := hf 3 _ rfl
  have h4 : DataW.trod enc Try.prog w base spare held n 4 [c4] = some y4 := hf 4 _ rfl
  simp only [DataW.weights, Try.underlying53, List.map_cons, List.map_nil, DataW.weightsEach, List.mem_append] at hw
  obtain ⟨a0, k0_, s0⟩ := (Opens.int (k := .u64) Try.underlying22) H enc w base spare held n _ y0.1 y0.2 h0 (fun q hq => hw q (.inl hq))
  obtain ⟨a1, k1_, s1⟩ := (Opens.string Try.underlying9) H enc w base spare held n _ y1.1 y1.2 h1 (fun q hq => hw q (.inr (.inl hq)))
  obtain ⟨a2, k2_, s2⟩ := (Opens.string Try.underlying9) H enc w base spare held n _ y2.1 y2.2 h2 (fun q hq => hw q (.inr (.inr (.inl hq))))
  obtain ⟨a3, k3_, s3⟩ := (Opens.bool Try.underlying4) H enc w base spare held n _ y3.1 y3.2 h3 (fun q hq => hw q (.inr (.inr (.inr (.inl hq)))))
  obtain ⟨a4, k4_, s4⟩ := (Opens.bool Try.underlying4) H enc w base spare held n _ y4.1 y4.2 h4 (fun q hq => hw q (.inr (.inr (.inr (.inr (.inl hq))))))
  exact ⟨⟨a0, a1, a2, a3, a4⟩, ⟨[c0], [c1, c2, c3, c4], rfl, k0_, ⟨[c1], [c2, c3, c4], rfl, k1_, ⟨[c2], [c3, c4], rfl, k2_, ⟨[c3], [c4], rfl, k3_, k4_⟩⟩⟩⟩, s0, s1, s2, s3, s4⟩
def ok24 (x : S24) : Prop := (fun n : Int => (Lit.int .u64 n).wf = true) x.f0 ∧ (fun n : Int => (Lit.int .u64 n).wf = true) x.f1
theorem cells24 : Try.prog.cellsOf 24 = 2 := by kernel_rfl
set_option maxRecDepth 100000 in
theorem opens24 : Opens Try.prog 24 k24 ok24 := by
  intro H enc w base spare held fuel cs x ps h hw
  obtain ⟨xs, n, _, hx, hl, hlen, hf⟩ := DataW.trod_struct Try.underlying24 h
  simp only [Prod.mk.injEq] at hx
  obtain ⟨rfl, _⟩ := hx
  obtain ⟨y0, y1, rfl⟩ : ∃ y0 y1, xs = [y0, y1] := by
    have hz : xs.length = 2 := by rw [hlen]; rfl
    exact lenAt2 hz
  obtain ⟨c0, c1, rfl⟩ := lenAt2 (hl.trans cells24)
  have h0 : DataW.trod enc Try.prog w base spare held n 22 [c0] = some y0 := hf 0 _ rfl
  have h1 : DataW.trod enc Try.prog w base spare held n 22 [c1] = some y1 := hf 1 _ rfl
  simp only [DataW.weights, Try.underlying24, List.map_cons, List.map_nil, DataW.weightsEach, List.mem_append] at hw
  obtain ⟨a0, k0_, s0⟩ := (Opens.int (k := .u64) Try.underlying22) H enc w base spare held n _ y0.1 y0.2 h0 (fun q hq => hw q (.inl hq))
  obtain ⟨a1, k1_, s1⟩ := (Opens.int (k := .u64) Try.underlying22) H enc w base spare held n _ y1.1 y1.2 h1 (fun q hq => hw q (.inr (.inl hq)))
  exact ⟨⟨a0, a1⟩, ⟨[c0], [c1], rfl, k0_, k1_⟩, s0, s1⟩
def ok27 (x : S27) : Prop := ok24 x.f0 ∧ (fun l => l.length * Try.prog.bytesOf 53 ≤ 140737488351232 ∧ ∀ x ∈ l, ok53 x) x.f1
theorem cells27 : Try.prog.cellsOf 27 = 3 := by kernel_rfl
set_option maxRecDepth 100000 in
theorem opens27 : Opens Try.prog 27 k27 ok27 := by
  intro H enc w base spare held fuel cs x ps h hw
  obtain ⟨xs, n, _, hx, hl, hlen, hf⟩ := DataW.trod_struct Try.underlying27 h
  simp only [Prod.mk.injEq] at hx
  obtain ⟨rfl, _⟩ := hx
  obtain ⟨y0, y1, rfl⟩ : ∃ y0 y1, xs = [y0, y1] := by
    have hz : xs.length = 2 := by rw [hlen]; rfl
    exact lenAt2 hz
  obtain ⟨c0, c1, c2, rfl⟩ := lenAt3 (hl.trans cells27)
  have h0 : DataW.trod enc Try.prog w base spare held n 24 [c0, c1] = some y0 := hf 0 _ rfl
  have h1 : DataW.trod enc Try.prog w base spare held n 25 [c2] = some y1 := hf 1 _ rfl
  simp only [DataW.weights, Try.underlying27, List.map_cons, List.map_nil, DataW.weightsEach, List.mem_append] at hw
  obtain ⟨a0, k0_, s0⟩ := opens24 H enc w base spare held n _ y0.1 y0.2 h0 (fun q hq => hw q (.inl hq))
  obtain ⟨a1, k1_, s1⟩ := (Opens.slice Try.underlying25 (by kernel_rfl) opens53) H enc w base spare held n _ y1.1 y1.2 h1 (fun q hq => hw q (.inr (.inl hq)))
  exact ⟨⟨a0, a1⟩, ⟨[c0, c1], [c2], rfl, k0_, k1_⟩, s0, s1⟩
def ok33 (x : S33) : Prop := (fun n : Int => (Lit.int .i64 n).wf = true) x.f0 ∧ (fun s : ByteArray => s.size ≤ 140737488351232) x.f1 ∧ (fun n : Int => (Lit.int .u64 n).wf = true) x.f2 ∧ (fun _ : Bool => True) x.f3 ∧ (fun _ : Bool => True) x.f4
theorem cells33 : Try.prog.cellsOf 33 = 5 := by kernel_rfl
set_option maxRecDepth 100000 in
theorem opens33 : Opens Try.prog 33 k33 ok33 := by
  intro H enc w base spare held fuel cs x ps h hw
  obtain ⟨xs, n, _, hx, hl, hlen, hf⟩ := DataW.trod_struct Try.underlying33 h
  simp only [Prod.mk.injEq] at hx
  obtain ⟨rfl, _⟩ := hx
  obtain ⟨y0, y1, y2, y3, y4, rfl⟩ : ∃ y0 y1 y2 y3 y4, xs = [y0, y1, y2, y3, y4] := by
    have hz : xs.length = 5 := by rw [hlen]; rfl
    exact lenAt5 hz
  obtain ⟨c0, c1, c2, c3, c4, rfl⟩ := lenAt5 (hl.trans cells33)
  have h0 : DataW.trod enc Try.prog w base spare held n 31 [c0] = some y0 := hf 0 _ rfl
  have h1 : DataW.trod enc Try.prog w base spare held n 9 [c1] = some y1 := hf 1 _ rfl
  have h2 : DataW.trod enc Try.prog w base spare held n 22 [c2] = some y2 := hf 2 _ rfl
  have h3 : DataW.trod enc Try.prog w base spare held n 4 [c3] = some y3 := hf 3 _ rfl
  have h4 : DataW.trod enc Try.prog w base spare held n 4 [c4] = some y4 := hf 4 _ rfl
  simp only [DataW.weights, Try.underlying33, List.map_cons, List.map_nil, DataW.weightsEach, List.mem_append] at hw
  obtain ⟨a0, k0_, s0⟩ := (Opens.int (k := .i64) Try.underlying31) H enc w base spare held n _ y0.1 y0.2 h0 (fun q hq => hw q (.inl hq))
  obtain ⟨a1, k1_, s1⟩ := (Opens.string Try.underlying9) H enc w base spare held n _ y1.1 y1.2 h1 (fun q hq => hw q (.inr (.inl hq)))
  obtain ⟨a2, k2_, s2⟩ := (Opens.int (k := .u64) Try.underlying22) H enc w base spare held n _ y2.1 y2.2 h2 (fun q hq => hw q (.inr (.inr (.inl hq))))
  obtain ⟨a3, k3_, s3⟩ := (Opens.bool Try.underlying4) H enc w base spare held n _ y3.1 y3.2 h3 (fun q hq => hw q (.inr (.inr (.inr (.inl hq)))))
  obtain ⟨a4, k4_, s4⟩ := (Opens.bool Try.underlying4) H enc w base spare held n _ y4.1 y4.2 h4 (fun q hq => hw q (.inr (.inr (.inr (.inr (.inl hq))))))
  exact ⟨⟨a0, a1, a2, a3, a4⟩, ⟨[c0], [c1, c2, c3, c4], rfl, k0_, ⟨[c1], [c2, c3, c4], rfl, k1_, ⟨[c2], [c3, c4], rfl, k2_, ⟨[c3], [c4], rfl, k3_, k4_⟩⟩⟩⟩, s0, s1, s2, s3, s4⟩
end Go.Proofs.Ytkennobdoldlkaa.PAll
end
