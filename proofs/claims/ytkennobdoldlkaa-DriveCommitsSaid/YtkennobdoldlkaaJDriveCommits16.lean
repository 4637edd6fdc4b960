/- Joined texts of the claim DriveCommits (part 16): contracts of functions and plain laws. -/
import Derived.Lib.SlKeysI
section
/- Keys of a map that are numbers of 64 bits without a sign: collected in whatever order, then sorted (turned from the shelf's text at int). -/
namespace Go.Proofs.Ytkennobdoldlkaa.PAll
open Go Go.Maps Go.Proofs Go.Sort Go.RowKit
set_option linter.unusedVariables false
set_option linter.unusedSimpArgs false
abbrev encU8 : Int → Value := Value.int .u64
/-- The number of a key. -/
def u64Of : Lit → Int
  | .int _ a => a
  | _ => 0
def u64Keys {H : Type} : DataW H → List Int
  | .map es => es.map fun p => u64Of p.1
  | _ => []
theorem encU8_inj {x y : Int} (h : encU8 x = encU8 y) : x = y := by simpa [encU8] using h
/-- What reads as a key of a type over int (64 bits): the number, what it reads as, its bounds. -/
theorem keyOf_u64 {P : Program} {k : TypeId} (hk : P.underlying k = some (.int .u64)) {key : Value} {kl : Lit} (h : keyOf P k key = some kl) : ∃ x : Int, key = encU8 x ∧ kl = .int .u64 x ∧ (Lit.int .u64 x).wf = true := by
  cases key <;> simp [keyOf, hk, mapKey] at h
  rename_i q a
  obtain ⟨⟨rfl, hw⟩, rfl⟩ := h
  exact ⟨a, rfl, rfl, hw⟩

theorem perm_u64Keys {H : Type} {es : List (Lit × DataW H)} (hp : es.Pairwise (fun p q => p.1 ≠ q.1)) (hk : ∀ p ∈ es, ∃ x, p.1 = .int .u64 x) {ss : List Int} (hnd : ss.Nodup) (hm : ∀ x, x ∈ ss ↔ has (.map es) (.int .u64 x) = true) :
    ss.Perm (u64Keys (.map es)) := by
  refine (List.perm_ext_iff_of_nodup hnd ?_).2 fun x => ?_
  · show (es.map fun p => u64Of p.1).Nodup
    refine List.pairwise_map.2 (hp.imp_of_mem fun {p q} hp' hq' hne e => hne ?_)
    obtain ⟨a, ha⟩ := hk p hp'
    obtain ⟨b, hb⟩ := hk q hq'
    rw [ha, hb] at e ⊢
    exact congrArg _ e
  · rw [hm x, has_eq, List.any_eq_true]
    show _ ↔ x ∈ es.map fun p => u64Of p.1
    rw [List.mem_map]
    constructor
    · rintro ⟨p, hp', hs⟩
      obtain ⟨a, ha⟩ := hk p hp'
      rw [ha] at hs
      exact ⟨p, hp', by rw [ha]; simpa [Lit.sameKey, u64Of] using hs⟩
    · rintro ⟨p, hp', rfl⟩
      obtain ⟨a, ha⟩ := hk p hp'
      exact ⟨p, hp', by rw [ha]; simp [Lit.sameKey, u64Of]⟩

/-- THE RELATION's WORD: no key twice; a key is on the list just where the map has it and it is no longer to come. -/
def CollectedU {H : Type} (D0 : DataW H) (left : Lit → Bool) (ss : List Int) : Prop := ss.Nodup ∧ ∀ x, x ∈ ss ↔ (has D0 (.int .u64 x) = true ∧ left (.int .u64 x) = false)

section
variable {H : Type} {D0 : DataW H} {left : Lit → Bool} {ss : List Int}

theorem CollectedU.start (D0 : DataW H) : CollectedU D0 (has D0) [] := ⟨List.nodup_nil, fun x => by cases has D0 (.int .u64 x) <;> simp⟩

theorem CollectedU.step (h : CollectedU D0 left ss) {x : Int} {y : DataW H} (hlk : left (.int .u64 x) = true) (hat : ∀ zd, D0.atKey (.int .u64 x) zd = y) : CollectedU D0 (fun z => left z && !z.sameKey (.int .u64 x)) (ss ++ [x]) := by
  have hhas : has D0 (.int .u64 x) = true := has_true_of_atKey hat
  have hnew : x ∉ ss := fun hx => by have := ((h.2 x).1 hx).2; rw [hlk] at this; cases this
  refine ⟨List.nodup_append.2 ⟨h.1, by simp, fun a ha b hb => by simp at hb; subst hb; exact fun e => hnew (e ▸ ha)⟩, fun y => ?_⟩
  by_cases hy : y = x
  · subst hy; simp [hhas, Lit.sameKey]
  · simp [h.2 y, hy, Lit.sameKey]

variable {P : Program} {k : TypeId} {R : Value → Option (DataW H × List MemPlace)} {w : World} {b n : Nat}

/-- AT THE END. -/
theorem CollectedU.perm (h : CollectedU D0 left ss) (hown : w.ownsMap P k R b n D0) (K : Keyed P k) (hk : P.underlying k = some (.int .u64)) (hl : ∀ kl, left kl = false) : ss.Perm (u64Keys D0) := by
  obtain ⟨es, hD, hpw, _⟩ := hown.entries K
  obtain ⟨es', hD', hko⟩ := hown.keysOf
  obtain rfl : es = es' := by rw [hD] at hD'; simpa using hD'
  subst hD
  exact perm_u64Keys hpw (fun p hp => by obtain ⟨v, hv⟩ := hko p hp; obtain ⟨x, _, hx, _⟩ := keyOf_u64 hk hv; exact ⟨x, hx⟩) h.1 (fun x => by rw [h.2 x, hl]; simp)


end

theorem holds_of_block_u {w : World} {g : Nat} {cur : Array Value} {e : TypeId} {ss : List Int} (hb : w.heap[g]? = some (.cells cur e (0, 0))) (ht : cur.toList.take ss.length = ss.map encU8) : Holds encU8 w g 0 ss.toArray := by
  intro j hj
  have hj' : j < ss.length := by simpa using hj
  refine ⟨?_, by simp [World.frozen?, hb]⟩
  have h1 : (cur.toList.take ss.length)[j]? = (ss.map encU8)[j]? := by rw [ht]
  rw [List.getElem?_take_of_lt hj'] at h1
  simp only [World.cell?, hb, Nat.zero_add]
  simp only [Option.isSome_none, Bool.false_eq_true, if_false]
  rw [← Array.getElem?_toList, h1]
  simp [hj']

theorem heap_sorted_u {w : World} {g n : Nat} {os : Array Obj} {cur : Array Value} {e : TypeId} {fr : Nat × Nat} (d : Array Int) (hb : w.heap[g]? = some (.cells cur e fr)) :
    (grow (putRow encU8 (Sort.ahead w n) g 0 d) os).heap[g]? = some (.cells (putCells encU8 0 d cur) e fr) := by
  have hg : g < w.heap.size := (Array.getElem?_eq_some_iff.1 hb).1
  rw [heap_grow_old _ _ (by simpa using hg)]
  simp [putRow, mapBlock, Sort.ahead, Array.getElem?_modify, hb, onCells]

theorem grownBy_sorted_u {w : World} {g n : Nat} {os : Array Obj} (d : Array Int) : w.grownBy (grow (putRow encU8 (Sort.ahead w n) g 0 d) os) (some g) := by
  refine ⟨rfl, rfl, rfl, by simp, fun k hk hne => ?_⟩
  rw [heap_grow_old _ _ (by simpa using hk)]
  have : g ≠ k := fun e => hne (by rw [e])
  simp [putRow, mapBlock, Sort.ahead, Array.getElem?_modify, this]

theorem take_putCells_i (cur : Array Value) (ts : List Int) (h : ts.length ≤ cur.size) : (putCells encU8 0 ts.toArray cur).toList.take ts.length = ts.map encU8 := by
  apply List.ext_getElem?
  intro j
  by_cases hj : j < ts.length
  · rw [List.getElem?_take_of_lt hj, Array.getElem?_toList]
    simp [putCells, hj, show j < cur.size by omega]
  · rw [List.getElem?_take_eq_none (by omega), List.getElem?_eq_none (by simp; omega)]

/-- BEHIND THE SORT the same slice owns the sorted list. -/
theorem ownsRow_sorted_u {w : World} {base g cap n : Nat} {e : TypeId} {os : Array Obj} {cur : Array Value} {ss ts : List Int} (hl : ts.length = ss.length) (hbase : base ≤ g) (hb : w.heap[g]? = some (.cells cur e (0, 0)))
    (h1 : ss.length ≤ cap) (h2 : cap ≤ maxLen) (h3 : cur.size = cap * 1) :
    (grow (putRow encU8 (Sort.ahead w n) g 0 ts.toArray) os).ownsRow base e 1 (.slice (some ⟨g, 0, none⟩) ss.length cap) ss.length (ts.map encU8) :=
  ⟨by simp [hl], .inr ⟨g, cap, _, rfl, hbase, heap_sorted_u _ hb, h1, h2, by simp [putCells, h3], by rw [Nat.mul_one, ← hl]; exact take_putCells_i cur ts (by omega)⟩⟩
end Go.Proofs.Ytkennobdoldlkaa.PAll
end
