/- Joined texts of the claim ShardRight (part 39): contracts of functions and plain laws. -/
import Derived.BigRegion
import Derived.Test.YtmcgcdpiceikeaaJShardRight37
import Derived.Test.YtmcgcdpiceikeaaJShardRight38
section
/- shard.finishes, whole. -/
namespace Go.Proofs.Ytmcgcdpiceikeaa.PAll
open Go.RowKit Go.Proofs.YtmcgcdpiceikeaaW.PrintWords Go.Proofs.YtmcgcdpiceikeaaW.PrintMore Go.Proofs.Ytmcgcdpiceikeaa
set_option linter.unusedVariables false
def finS (s : Shd) (t : S30) (cm : Bool) (rows : List S50) (ver : Int) : Shd × Ans := (⟨rows, dropV s.holds t, s.opens.filter (fun x => !sameTx x.f0 t), s.dones ++ [⟨t, cm⟩], ver⟩, ⟨0, ⟨#[]⟩, 0, false, cm⟩)
def finsV (s : Shd) (t : S30) (cm : Bool) : Shd × Ans :=
  if 0 ≤ findI (isDoneT t) s.dones then (s, ⟨if (overV s.dones t).f1 = cm then 0 else 13, ⟨#[]⟩, 0, false, (overV s.dones t).f1⟩)
  else if findI (isOpenT t) s.opens < 0 then (if cm = true then (s, errA 7) else if 64 ≤ s.opens.length + s.dones.length then (s, errA 5) else finS s t cm s.rows s.ver)
  else if cm = true ∧ (s.opens[(findI (isOpenT t) s.opens).toNat]!).f1 = false then (s, errA 9)
  else if cm = true ∧ (s.opens[(findI (isOpenT t) s.opens).toNat]!).f3 ≠ [] then
    (if (allV s.rows (s.opens[(findI (isOpenT t) s.opens).toNat]!).f3 (IntKind.u64.wrap (s.ver + 1))).2 ≠ 0 then (s, errA (allV s.rows (s.opens[(findI (isOpenT t) s.opens).toNat]!).f3 (IntKind.u64.wrap (s.ver + 1))).2)
     else finS s t cm (allV s.rows (s.opens[(findI (isOpenT t) s.opens).toNat]!).f3 (IntKind.u64.wrap (s.ver + 1))).1 (IntKind.u64.wrap (s.ver + 1)))
  else finS s t cm s.rows s.ver
end Go.Proofs.Ytmcgcdpiceikeaa.PAll
end
section
/- What is read stays as it is when the boxes of results are filled; shard.Do. -/
namespace Go.Proofs.Ytmcgcdpiceikeaa.PAll
open Go.RowKit Go.Proofs.YtmcgcdpiceikeaaW.PrintWords Go.Proofs.YtmcgcdpiceikeaaW.PrintMore Go.Proofs.Ytmcgcdpiceikeaa
set_option linter.unusedVariables false
/-- A slice's row does not lie in block q. -/
def Off (q : Nat) (v : Value) (n : Nat) : Prop := 0 < n → ∀ b o c, v = .slice (some ⟨b, o, none⟩) n c → b ≠ q
theorem raw_grown {k q : Nat} {w W : World} {v : Value} {css : List (List Value)} (hk : 0 < k) (h : Sl (raw k) w v css) (hg : w.grownBy W (some q)) (hne : Off q v css.length) : Sl (raw k) W v css := by
  obtain ⟨A, c, rfl, hc, h⟩ := h
  refine ⟨A, c, rfl, hc, rfl, h.2.1, fun hn => ?_⟩
  obtain ⟨b, o, rfl, hrow⟩ := C_row h hk hn
  refine ⟨_, rfl, fun j p hj => ?_⟩
  have hjl := (List.getElem?_eq_some_iff.1 hj).1
  have hp : css[j]! = p := by rw [getElem!_pos css j hjl]; exact (List.getElem?_eq_some_iff.1 hj).2
  obtain ⟨cs, h1, h2, h3⟩ := hrow j hjl
  rw [hp] at h2
  obtain ⟨e, h4, h5⟩ := h2
  exact ⟨cs, h1, ⟨e, h4, h5⟩, fun i u hu => by
    have h := h3 i u hu
    show W.cell? (Addr.add ⟨b, o, none⟩ (j * k + i)) = some u
    have e : Addr.add ⟨b, o, none⟩ (j * k + i) = ⟨b, o + j * k + i, none⟩ := by
      unfold Addr.add
      by_cases c : j * k + i = 0
      · rw [if_pos c, Nat.add_assoc, c]; rfl
      · rw [if_neg c, Nat.add_assoc]
    rw [e]
    exact cell_grown_u h hg (fun e => hne hn b o c rfl (Option.some.inj e))⟩
theorem flatGrown {α : Type} {d : Kd α} {k q : Nat} {enc : α → List Value} (F : Flat d k enc) {w W : World} {v : Value} {l : List α} (hk : 0 < k) (h : Sl d w v l) (hg : w.grownBy W (some q)) (hne : Off q v l.length) : Sl d W v l :=
  F.ofsl (raw_grown hk (F.sl h) hg (by rw [List.length_map]; exact hne))
/-- In block q there are neither two whole numbers u64 side by side, nor a text with a text or two such numbers behind it. -/
structure NoRow (w : World) (q : Nat) : Prop where
  ss : ∀ o a b, ¬ (w.cell? ⟨q, o, none⟩ = some (.string a) ∧ w.cell? ⟨q, o + 1, none⟩ = some (.string b))
  sii : ∀ o a b c, ¬ (w.cell? ⟨q, o, none⟩ = some (.string a) ∧ w.cell? ⟨q, o + 1, none⟩ = some (.int .u64 b) ∧ w.cell? ⟨q, o + 2, none⟩ = some (.int .u64 c))
  ii : ∀ o a b, ¬ (w.cell? ⟨q, o, none⟩ = some (.int .u64 a) ∧ w.cell? ⟨q, o + 1, none⟩ = some (.int .u64 b))
theorem noRow_z {w : World} {q : Nat} {t : TypeId} {A0 A1 A2 A3 : Option Addr} {n0 c0 n1 c1 n2 c2 n3 c3 : Nat} {v : Int} (h : w.heap[q]? = some (.cells #[.slice A0 n0 c0, .slice A1 n1 c1, .slice A2 n2 c2, .slice A3 n3 c3, .int .u64 v] t (0, 0))) : NoRow w q := by
  have hc := cell_row (cs := [.slice A0 n0 c0, .slice A1 n1 c1, .slice A2 n2 c2, .slice A3 n3 c3, .int .u64 v]) h
  have hs : ∀ o a, w.cell? ⟨q, o, none⟩ ≠ some (.string a) := fun o a e => by
    rw [hc] at e
    match o, e with
    | 0, e => cases e
    | 1, e => cases e
    | 2, e => cases e
    | 3, e => cases e
    | 4, e => cases e
    | n + 5, e => simp at e
  refine ⟨fun o a b e => hs o a e.1, fun o a b c e => hs o a e.1, fun o a b e => ?_⟩
  rw [hc, hc] at e
  match o, e with
  | 0, e => cases e.1
  | 1, e => cases e.1
  | 2, e => cases e.1
  | 3, e => cases e.1
  | 4, e => simp at e
  | n + 5, e => simp at e
theorem noRow_a {w : World} {q : Nat} {t : TypeId} {e0 v0 : Int} {s : ByteArray} {f g : Bool} (h : w.heap[q]? = some (.cells #[.int .i64 e0, .string s, .int .u64 v0, .bool f, .bool g] t (0, 0))) : NoRow w q := by
  have hc := cell_row (cs := [.int .i64 e0, .string s, .int .u64 v0, .bool f, .bool g]) h
  refine ⟨fun o a b e => ?_, fun o a b c e => ?_, fun o a b e => ?_⟩
  · rw [hc, hc] at e
    match o, e with
    | 0, e => cases e.1
    | 1, e => cases e.2
    | 2, e => cases e.1
    | 3, e => cases e.1
    | 4, e => cases e.1
    | n + 5, e => simp at e
  · rw [hc, hc, hc] at e
    match o, e with
    | 0, e => cases e.1
    | 1, e => cases e.2.2
    | 2, e => cases e.1
    | 3, e => cases e.1
    | 4, e => cases e.1
    | n + 5, e => simp at e
  · rw [hc, hc] at e
    match o, e with
    | 0, e => cases e.1
    | 1, e => cases e.1
    | 2, e => cases e.2
    | 3, e => cases e.1
    | 4, e => cases e.1
    | n + 5, e => simp at e
theorem NoRow.row {w : World} {q : Nat} (h : NoRow w q) {v : Value} {l : List S50} (hl : Sl k50 w v l) : Off q v l.length := fun hn b o c e hb => by
  obtain ⟨A, c', rfl, hc, hr⟩ := hl
  cases e
  obtain ⟨b', o', e, h0, h1, _⟩ := rowRow hr 0 hn
  cases e
  subst hb
  exact h.ss _ _ _ ⟨h0, h1⟩
theorem NoRow.hold {w : World} {q : Nat} (h : NoRow w q) {v : Value} {l : List S75} (hl : Sl k75 w v l) : Off q v l.length := fun hn b o c e hb => by
  obtain ⟨A, c', rfl, hc, hr⟩ := hl
  cases e
  obtain ⟨b', o', e, h0, h1, h2, _⟩ := holdCells hr 0 hn
  cases e
  subst hb
  exact h.sii _ _ _ _ ⟨h0, h1, h2⟩
theorem NoRow.done {w : World} {q : Nat} (h : NoRow w q) {v : Value} {l : List S68} (hl : Sl k68 w v l) : Off q v l.length := fun hn b o c e hb => by
  obtain ⟨A, c', rfl, hc, hr⟩ := hl
  cases e
  obtain ⟨b', o', e, h0, h1, _⟩ := doneRow hr 0 hn
  cases e
  subst hb
  exact h.ii _ _ _ ⟨h0, h1⟩
theorem putCells {W : World} {l : List S54} {A : Option Addr} (h : Kd.C k54 W A l.length l) (j : Nat) (hj : j < l.length) : ∃ b o, A = some ⟨b, o, none⟩ ∧ W.cell? ⟨b, o + j * 3, none⟩ = some (.string (l[j]!).f0) ∧ W.cell? ⟨b, o + j * 3 + 1, none⟩ = some (.string (l[j]!).f1) ∧ W.cell? ⟨b, o + j * 3 + 2, none⟩ = some (.bool (l[j]!).f2) := by
  obtain ⟨b, o, rfl, hrow⟩ := C_row h (by decide) (by omega)
  obtain ⟨cs, hcs, hK, hrg⟩ := hrow j hj
  obtain rfl := flat54.openK _ _ _ hK
  exact ⟨b, o, rfl, hrg 0 _ rfl, hrg 1 _ rfl, hrg 2 _ rfl⟩
theorem NoRow.put {w : World} {q : Nat} (h : NoRow w q) {v : Value} {l : List S54} (hl : Sl k54 w v l) : Off q v l.length := fun hn b o c e hb => by
  obtain ⟨A, c', rfl, hc, hr⟩ := hl
  cases e
  obtain ⟨b', o', e, h0, h1, _⟩ := putCells hr 0 hn
  cases e
  subst hb
  exact h.ss _ _ _ ⟨h0, h1⟩
theorem NoRow.open {w : World} {q : Nat} (h : NoRow w q) {v : Value} {l : List S48} (hl : Sl k48 w v l) : Off q v l.length := fun hn b o c e hb => by
  obtain ⟨A, c', rfl, hc, hr⟩ := hl
  cases e
  obtain ⟨b', o', e, _, _, _, _, h0, h1, _⟩ := openRow hr 0 hn
  cases e
  subst hb
  exact h.ii _ _ _ ⟨h0, h1⟩
theorem OpenRow.grown {q : Nat} {w W : World} {l : List S48} {css : List (List Value)} (h : OpenRow w l css) (hq : NoRow w q) (hg : w.grownBy W (some q)) : OpenRow W l css := by
  refine ⟨h.1, fun j hj => ?_⟩
  obtain ⟨B, c, e, h1, h2⟩ := h.cells j hj
  rw [e]
  have hs : Sl k54 w (.slice B (l[j]!).f3.length c) (l[j]!).f3 := ⟨B, c, rfl, h1, h2⟩
  obtain ⟨B', c', e', h3, h4⟩ := flatGrown flat54 (by decide) hs hg (hq.put hs)
  cases e'
  exact openK_mk h3 h4
theorem opens_grown {q : Nat} {w W : World} {v : Value} {l : List S48} (h : Sl k48 w v l) (hq : NoRow w q) (hg : w.grownBy W (some q)) : Sl k48 W v l := by
  obtain ⟨css, h1, h2⟩ := opens_raw h
  exact opens_back (h1.grown hq hg) (Below.refl _ _) (raw_grown (by decide) h2 hg (by rw [h1.1]; exact hq.open h))
theorem ShdV.grown {q : Nat} {w W : World} {v : Value} {s : Shd} (h : ShdV w v s) (hq : NoRow w q) (hg : w.grownBy W (some q)) : ShdV W v s := by
  obtain ⟨v0, v1, v2, v3, rfl, h0, h1, h2, h3⟩ := h
  exact ⟨v0, v1, v2, v3, rfl, flatGrown flat50 (by decide) h0 hg (hq.row h0), flatGrown flat75 (by decide) h1 hg (hq.hold h1), opens_grown h2 hq hg, flatGrown flat68 (by decide) h3 hg (hq.done h3)⟩
/-- What shard.Do comes to. -/
def doS (s : Shd) (kind : Int) (t : S30) (key : ByteArray) (ps : List S54) (cm : Bool) : Shd × Ans :=
  if kind = 1 ∨ kind = 2 then asksV s kind t key else if kind = 3 then prepsV s t ps else if kind = 4 then finsV s t cm else (s, errA 1)
theorem doOut {w w' : World} {r : Shd × Ans} {e : Ending} (h : DoPost w r e w') : ∃ A0 n0 c0 A1 n1 c1 A2 n2 c2 A3 n3 c3 : _, e = .returned (.tuple #[.agg #[.slice A0 n0 c0, .slice A1 n1 c1, .slice A2 n2 c2, .slice A3 n3 c3, .int .u64 r.1.ver], .agg #[.int .i64 r.2.err, .string r.2.val, .int .u64 r.2.ver, .bool r.2.found, .bool r.2.commit]]) ∧ ShdV w' (.agg #[.slice A0 n0 c0, .slice A1 n1 c1, .slice A2 n2 c2, .slice A3 n3 c3, .int .u64 r.1.ver]) r.1 ∧ Below w.heap.size w w' := by
  obtain ⟨v, rfl, hs, hb⟩ := h
  obtain ⟨v0, v1, v2, v3, rfl, ⟨A0, c0, rfl, h0⟩, ⟨A1, c1, rfl, h1⟩, ⟨A2, c2, rfl, h2⟩, ⟨A3, c3, rfl, h3⟩⟩ := hs
  exact ⟨_, _, _, _, _, _, _, _, _, _, _, _, rfl, ⟨_, _, _, _, rfl, ⟨A0, c0, rfl, h0⟩, ⟨A1, c1, rfl, h1⟩, ⟨A2, c2, rfl, h2⟩, ⟨A3, c3, rfl, h3⟩⟩, hb⟩
theorem put5_z {w : World} {n : Nat} {v : Value} {s : Shd} {t t2 : TypeId} {u : Int} {e0 v0 : Int} {st : ByteArray} {f g : Bool} (h : ShdV w v s) (hz : w.heap[n + 1 + 1]? = some (.cells #[.slice none 0 0, .slice none 0 0, .slice none 0 0, .slice none 0 0, .int .u64 u] t (0, 0))) (ha : w.heap[n + 1 + 1 + 1]? = some (.cells #[.int .i64 e0, .string st, .int .u64 v0, .bool f, .bool g] t2 (0, 0)))
    (a0 a1 a2 a3 a4 b0 b1 b2 b3 b4 : Value) : ShdV (put5 (put5 w (n + 1 + 1) a0 a1 a2 a3 a4) (n + 1 + 1 + 1) b0 b1 b2 b3 b4) v s := by
  have h1 := h.grown (noRow_z hz) (put5_grown w (n + 1 + 1) a0 a1 a2 a3 a4)
  exact h1.grown (noRow_a (put5_other (by omega) ha a0 a1 a2 a3 a4)) (put5_grown _ _ _ _ _ _ _)
end Go.Proofs.Ytmcgcdpiceikeaa.PAll
end
section
/- shard.Do. -/
namespace Go.Proofs.Ytmcgcdpiceikeaa.PAll
open Go.RowKit Go.Proofs.YtmcgcdpiceikeaaW.PrintWords Go.Proofs.YtmcgcdpiceikeaaW.PrintMore Go.Proofs.Ytmcgcdpiceikeaa
set_option linter.unusedVariables false
structure ShdOk (s : Shd) : Prop where
  lim : ShdLim s
  keys : ShdKeys s
  rl : s.rows.length ≤ 2000000000000
end Go.Proofs.Ytmcgcdpiceikeaa.PAll
end
section
/- Plain laws of shards: keys as sets; locks. -/
namespace Go.Proofs.Ytmcgcdpiceikeaa.PAll
open Go.RowKit Go.Proofs.YtmcgcdpiceikeaaW.PrintWords Go.Proofs.YtmcgcdpiceikeaaW.PrintMore Go.Proofs.Ytmcgcdpiceikeaa
set_option linter.unusedVariables false
set_option linter.unusedSimpArgs false
theorem same_iff {a b : S30} : sameTx a b = true ↔ a = b := by
  obtain ⟨a0, a1⟩ := a
  obtain ⟨b0, b1⟩ := b
  unfold sameTx
  simp
theorem same_false {a b : S30} : sameTx a b = false ↔ a ≠ b := by
  rw [Ne, ← same_iff]
  simp
theorem nodup_len {α : Type} : ∀ {l m : List α}, l.Nodup → (∀ x ∈ l, x ∈ m) → l.length ≤ m.length
  | [], _, _, _ => Nat.zero_le _
  | x :: r, m, hn, h => by
    rw [List.nodup_cons] at hn
    obtain ⟨a, b, rfl⟩ := List.append_of_mem (h x (List.mem_cons_self ..))
    have ih := nodup_len (l := r) (m := a ++ b) hn.2 (fun y hy => by
      have := h y (List.mem_cons_of_mem _ hy)
      rcases List.mem_append.1 this with h1 | h1
      · exact List.mem_append.2 (.inl h1)
      · rcases List.mem_cons.1 h1 with h2 | h2
        · subst h2; exact absurd hy hn.1
        · exact List.mem_append.2 (.inr h2))
    rw [List.length_cons, List.length_append, List.length_cons]
    rw [List.length_append] at ih
    omega
theorem withV_mem {l : List ByteArray} {k k' : ByteArray} : k' ∈ withV l k ↔ k' ∈ l ∨ k' = k := by
  unfold withV
  split
  · rename_i h
    exact ⟨.inl, fun h' => h'.elim id (fun e => e ▸ h)⟩
  · simp
theorem withV_nodup {l : List ByteArray} {k : ByteArray} (h : l.Nodup) : (withV l k).Nodup := by
  unfold withV
  split
  · exact h
  · rename_i hk
    rw [List.nodup_append]
    exact ⟨h, by simp, fun a ha b hb e => hk (by rw [List.mem_singleton.1 hb] at e; exact e ▸ ha)⟩
theorem addPuts_spec : ∀ (ps : List S54) (acc : List ByteArray), acc.Nodup → (addPuts acc ps).Nodup ∧ ∀ k, k ∈ addPuts acc ps ↔ k ∈ acc ∨ ∃ p ∈ ps, p.f2 = false ∧ p.f0 = k
  | [], acc, h => ⟨h, fun k => by simp [addPuts]⟩
  | p :: r, acc, h => by
    rw [show addPuts acc (p :: r) = addPuts (if p.f2 = true then acc else withV acc p.f0) r from rfl]
    cases hp : p.f2 with
    | true =>
      rw [if_pos rfl]
      obtain ⟨h1, h2⟩ := addPuts_spec r acc h
      refine ⟨h1, fun k => ?_⟩
      rw [h2]
      simp [hp]
    | false =>
      rw [if_neg (by decide)]
      obtain ⟨h1, h2⟩ := addPuts_spec r (withV acc p.f0) (withV_nodup h)
      refine ⟨h1, fun k => ?_⟩
      rw [h2, withV_mem]
      simp only [List.mem_cons, exists_eq_or_imp, hp, true_and]
      constructor
      · rintro ((h | h) | h)
        · exact .inl h
        · exact .inr (.inl h.symm)
        · exact .inr (.inr h)
      · rintro (h | h | h)
        · exact .inl (.inl h)
        · exact .inl (.inr h.symm)
        · exact .inr h
theorem openKeys_spec : ∀ (l : List S48) (acc : List ByteArray), acc.Nodup → (openKeys acc l).Nodup ∧ ∀ k, k ∈ openKeys acc l ↔ k ∈ acc ∨ ∃ x ∈ l, x.f1 = true ∧ ∃ p ∈ x.f3, p.f2 = false ∧ p.f0 = k
  | [], acc, h => ⟨h, fun k => by simp [openKeys]⟩
  | x :: r, acc, h => by
    rw [show openKeys acc (x :: r) = openKeys (if x.f1 = true then addPuts acc x.f3 else acc) r from rfl]
    cases hx : x.f1 with
    | true =>
      rw [if_pos rfl]
      obtain ⟨a1, a2⟩ := addPuts_spec x.f3 acc h
      obtain ⟨h1, h2⟩ := openKeys_spec r _ a1
      refine ⟨h1, fun k => ?_⟩
      rw [h2, a2]
      simp only [List.mem_cons, exists_eq_or_imp, hx, true_and, or_assoc]
    | false =>
      rw [if_neg (by decide)]
      obtain ⟨h1, h2⟩ := openKeys_spec r acc h
      refine ⟨h1, fun k => ?_⟩
      rw [h2]
      simp [hx]
theorem rowsFrom_spec : ∀ (l : List S50) (acc : List ByteArray), acc.Nodup → (l.foldl (fun a r => withV a r.f0) acc).Nodup ∧ ∀ k, k ∈ l.foldl (fun a r => withV a r.f0) acc ↔ k ∈ acc ∨ ∃ r ∈ l, r.f0 = k
  | [], acc, h => ⟨h, fun k => by simp⟩
  | x :: r, acc, h => by
    rw [List.foldl_cons]
    obtain ⟨h1, h2⟩ := rowsFrom_spec r (withV acc x.f0) (withV_nodup h)
    refine ⟨h1, fun k => ?_⟩
    rw [h2, withV_mem]
    simp only [List.mem_cons, exists_eq_or_imp]
    constructor
    · rintro ((h | h) | h)
      · exact .inl h
      · exact .inr (.inl h.symm)
      · exact .inr (.inr h)
    · rintro (h | h | h)
      · exact .inl (.inl h)
      · exact .inl (.inr h.symm)
      · exact .inr h
/-- The keys that there may be. -/
def inKeys (rs : List S50) (os : List S48) (ps : List S54) (k : ByteArray) : Prop :=
  (∃ r ∈ rs, r.f0 = k) ∨ (∃ x ∈ os, x.f1 = true ∧ ∃ p ∈ x.f3, p.f2 = false ∧ p.f0 = k) ∨ ∃ p ∈ ps, p.f2 = false ∧ p.f0 = k
theorem keys_spec (rs : List S50) (os : List S48) (ps : List S54) : (addPuts (openKeys (rowKeys rs) os) ps).Nodup ∧ ∀ k, k ∈ addPuts (openKeys (rowKeys rs) os) ps ↔ inKeys rs os ps k := by
  obtain ⟨a1, a2⟩ := rowsFrom_spec rs [] List.nodup_nil
  obtain ⟨b1, b2⟩ := openKeys_spec os (rowKeys rs) a1
  obtain ⟨c1, c2⟩ := addPuts_spec ps _ b1
  refine ⟨c1, fun k => ?_⟩
  rw [c2, b2]
  unfold rowKeys inKeys
  rw [a2]
  simp [or_assoc]
theorem keysV_le {rs rs' : List S50} {os os' : List S48} {ps ps' : List S54} (h : ∀ k, inKeys rs' os' ps' k → inKeys rs os ps k) : keysV rs' os' ps' ≤ keysV rs os ps := by
  obtain ⟨a1, a2⟩ := keys_spec rs' os' ps'
  obtain ⟨b1, b2⟩ := keys_spec rs os ps
  exact nodup_len a1 (fun k hk => (b2 k).2 (h k ((a2 k).1 hk)))
/-- No locks in each other's way, none twice. -/
structure RightL (l : List S75) : Prop where
  nd : (l.map (fun x => (x.f1, x.f0.toList))).Nodup
  way : ∀ x ∈ l, ∀ y ∈ l, inWayB y x.f1 x.f0 x.f2 = false
theorem RightL.filter {l : List S75} (h : RightL l) (p : S75 → Bool) : RightL (l.filter p) :=
  ⟨h.nd.sublist ((List.filter_sublist).map _), fun x hx y hy => h.way x (List.mem_filter.1 hx).1 y (List.mem_filter.1 hy).1⟩
theorem hasTx_iff {l : List S30} {t : S30} : hasTx l t = true ↔ t ∈ l := by
  unfold hasTx
  rw [List.any_eq_true]
  constructor
  · rintro ⟨x, hx, e⟩
    rw [same_iff] at e
    exact e ▸ hx
  · intro h
    exact ⟨t, h, same_iff.2 rfl⟩
theorem hasTx_not {l : List S30} {t : S30} : hasTx l t = false ↔ t ∉ l := by
  rw [← hasTx_iff]
  simp
theorem goAsk_spec (t : S30) (key : ByteArray) (wr : Bool) (firm : List S30) : ∀ (l : List S75) (out out' : List S30), goAsk t key wr firm l out = some out' →
    (∀ y ∈ out, y ∈ out') ∧ (∀ x ∈ l, inWayB x t key wr = true → x.f1 ∈ out') ∧ (∀ y ∈ out', y ∈ out ∨ (y ∉ firm ∧ y ≠ t))
  | [], out, out', h => by
    cases h
    exact ⟨fun y hy => hy, fun x hx => (by cases hx), fun y hy => .inl hy⟩
  | x :: r, out, out', h => by
    unfold goAsk at h
    by_cases c1 : inWayB x t key wr = true
    · rw [if_pos c1] at h
      by_cases c2 : (hasTx firm x.f1 || !elderB t x.f1) = true
      · rw [if_pos c2] at h; cases h
      · rw [if_neg c2] at h
        obtain ⟨h1, h2, h3⟩ := goAsk_spec t key wr firm r _ out' h
        have hx : x.f1 ∈ out' := by
          apply h1
          split
          · rename_i c; exact hasTx_iff.1 c
          · simp
        have hne : x.f1 ≠ t := by
          unfold inWayB at c1
          simp only [Bool.and_eq_true, Bool.not_eq_true'] at c1
          exact same_false.1 c1.2.1
        have hnf : x.f1 ∉ firm := by
          rw [Bool.or_eq_true, not_or] at c2
          exact fun hm => c2.1 (hasTx_iff.2 hm)
        refine ⟨fun y hy => h1 y (by split <;> simp [hy]), fun z hz hw => ?_, fun y hy => ?_⟩
        · rcases List.mem_cons.1 hz with rfl | hz
          · exact hx
          · exact h2 z hz hw
        · rcases h3 y hy with h4 | h4
          · split at h4
            · exact .inl h4
            · rcases List.mem_append.1 h4 with h5 | h5
              · exact .inl h5
              · rw [List.mem_singleton.1 h5]; exact .inr ⟨hnf, hne⟩
          · exact .inr h4
    · rw [if_neg c1] at h
      obtain ⟨h1, h2, h3⟩ := goAsk_spec t key wr firm r out out' h
      refine ⟨h1, fun z hz hw => ?_, h3⟩
      rcases List.mem_cons.1 hz with rfl | hz
      · exact absurd hw c1
      · exact h2 z hz hw
theorem inWay_sym (x y : S75) : inWayB y x.f1 x.f0 x.f2 = inWayB x y.f1 y.f0 y.f2 := by
  unfold inWayB
  rw [Bool.eq_iff_iff]
  simp only [Bool.and_eq_true, beq_iff_eq, Bool.not_eq_true', same_false, Bool.or_eq_true]
  constructor
  · rintro ⟨a, b, c⟩; exact ⟨a.symm, fun e => b e.symm, c.symm⟩
  · rintro ⟨a, b, c⟩; exact ⟨a.symm, fun e => b e.symm, c.symm⟩
theorem inWay_self (x : S75) (t : S30) (k : ByteArray) (w : Bool) (h : x.f1 = t) : inWayB x t k w = false := by
  unfold inWayB
  rw [same_iff.2 h]
  simp
theorem isHK_iff {t : S30} {key : ByteArray} {x : S75} : isHK t key x = true ↔ x.f1 = t ∧ x.f0.toList = key.toList := by
  unfold isHK
  rw [Bool.and_eq_true, same_iff, beq_iff_eq]
theorem findI_bang {α : Type} [Inhabited α] {p : α → Bool} {l : List α} {i : Nat} (hi : i < l.length) (h : findI p l = (i : Int)) : p (l[i]!) = true := by
  unfold findI at h
  by_cases c : l.findIdx p < l.length
  · rw [if_pos c] at h
    have := List.findIdx_getElem (w := c)
    have e : l.findIdx p = i := by omega
    rw [getElem!_pos l i hi]
    subst e
    exact this
  · rw [if_neg c] at h; omega
theorem findI_all {α : Type} {p : α → Bool} {l : List α} (h : ¬ 0 ≤ findI p l) : ∀ x ∈ l, p x = false := fun x hx => by
  cases hp : p x with
  | false => rfl
  | true =>
    exfalso
    apply h
    unfold findI
    rw [if_pos (List.findIdx_lt_length.2 ⟨x, hx, hp⟩)]
    omega
theorem findI_any {α : Type} {p : α → Bool} {l : List α} {x : α} (hx : x ∈ l) (hp : p x = true) : 0 ≤ findI p l := by
  unfold findI
  rw [if_pos (List.findIdx_lt_length.2 ⟨x, hx, hp⟩)]
  omega
end Go.Proofs.Ytmcgcdpiceikeaa.PAll
end
section
/- Plain laws of shards: what is asked of the locks keeps them right. -/
namespace Go.Proofs.Ytmcgcdpiceikeaa.PAll
open Go.RowKit Go.Proofs.YtmcgcdpiceikeaaW.PrintWords Go.Proofs.YtmcgcdpiceikeaaW.PrintMore Go.Proofs.Ytmcgcdpiceikeaa
set_option linter.unusedVariables false
set_option linter.unusedSimpArgs false
theorem inWay_key {x : S75} {t : S30} {k k' : ByteArray} {w : Bool} (h : k.toList = k'.toList) : inWayB x t k w = inWayB x t k' w := by
  unfold inWayB
  rw [h]
structure AskGood (l : List S75) (t : S30) (key : ByteArray) (wr : Bool) (firm : List S30) (rh : List S75) (rw_ : List S30) : Prop where
  right : RightL rh
  len : rh.length ≤ 48
  me : t ∉ rw_
  firm : ∀ y ∈ rw_, y ∉ firm
  from_ : ∀ x ∈ rh, x.f1 = t ∨ (x ∈ l ∧ x.f1 ∉ rw_)
  keep : ∀ x ∈ l, x.f1 ∉ rw_ → ∃ y ∈ rh, y.f1 = x.f1 ∧ y.f0 = x.f0 ∧ (x.f2 = true → y.f2 = true)
  has : ∃ y ∈ rh, y.f1 = t ∧ y.f0.toList = key.toList ∧ (wr = true → y.f2 = true)
theorem askV_good (l : List S75) (t : S30) (key : ByteArray) (wr : Bool) (firm : List S30) (hl : RightL l) (h48 : l.length ≤ 48) {rh : List S75} {rw_ : List S30} (h : askV l t key wr firm = (rh, rw_, 0)) : AskGood l t key wr firm rh rw_ := by
  unfold askV at h
  split at h
  · rename_i hc
    cases h
    obtain ⟨i, hi, hf⟩ := findI_range0 _ _ hc.1
    have hp := isHK_iff.1 (findI_bang hi hf)
    refine ⟨hl, h48, by simp, by simp, fun x hx => .inr ⟨hx, by simp⟩, fun x hx _ => ⟨x, hx, rfl, rfl, id⟩, l[i]!, by rw [getElem!_pos l i hi]; exact List.getElem_mem hi, hp.1, hp.2, fun hw => ?_⟩
    have := hc.2
    unfold atI at this
    rw [hf, hw] at this
    simpa using this
  · rename_i hc
    cases hg : goAsk t key wr firm l [] with
    | none => rw [hg] at h; cases h
    | some out =>
      rw [hg] at h
      obtain ⟨_, hway, hout⟩ := goAsk_spec t key wr firm l [] out hg
      have hme : t ∉ out := fun hm => by
        rcases hout t hm with h1 | h1
        · cases h1
        · exact h1.2 rfl
      have hfirm : ∀ y ∈ out, y ∉ firm := fun y hy => by
        rcases hout y hy with h1 | h1
        · cases h1
        · exact h1.1
      have hmem : ∀ x, x ∈ restV l out ↔ x ∈ l ∧ x.f1 ∉ out := fun x => by
        unfold restV
        rw [List.mem_filter]
        constructor
        · rintro ⟨a, b⟩; exact ⟨a, by rw [Bool.not_eq_true'] at b; exact hasTx_not.1 b⟩
        · rintro ⟨a, b⟩; exact ⟨a, by rw [hasTx_not.2 b]; rfl⟩
      have hno : ∀ x ∈ restV l out, inWayB x t key wr = false := fun x hx => by
        obtain ⟨a, b⟩ := (hmem x).1 hx
        cases hw : inWayB x t key wr with
        | false => rfl
        | true => exact absurd (hway x a hw) b
      have hml : (restV l out).length ≤ l.length := List.length_filter_le _ _
      have hmr : RightL (restV l out) := hl.filter _
      unfold askFin at h
      dsimp only at h
      split at h
      · rename_i h0
        obtain ⟨i, hi, hf⟩ := findI_range0 _ _ h0
        have hp := isHK_iff.1 (findI_bang hi hf)
        have hwr : wr = true := by
          have h1 : 0 ≤ findI (isHK t key) l := findI_any ((hmem _).1 (show (restV l out)[i]! ∈ restV l out by rw [getElem!_pos _ i hi]; exact List.getElem_mem hi)).1 (findI_bang hi hf)
          cases wr with
          | true => rfl
          | false => exact absurd ⟨h1, by simp⟩ hc
        have hup : askUp (restV l out) t key = (restV l out).set i ⟨((restV l out)[i]!).f0, ((restV l out)[i]!).f1, true⟩ := by
          unfold askUp atI
          rw [hf]
          rfl
        rw [hup] at h
        obtain ⟨h1, h2⟩ := Prod.mk.inj h
        obtain ⟨h3, _⟩ := Prod.mk.inj h2
        subst h1
        subst h3
        generalize hm : restV l out = m at *
        have hv : ∀ y ∈ m.set i ⟨(m[i]!).f0, (m[i]!).f1, true⟩, y ∈ m ∨ y = ⟨(m[i]!).f0, (m[i]!).f1, true⟩ := fun y hy => List.mem_or_eq_of_mem_set hy
        have hin : (⟨(m[i]!).f0, (m[i]!).f1, true⟩ : S75) ∈ m.set i ⟨(m[i]!).f0, (m[i]!).f1, true⟩ := List.mem_iff_getElem.2 ⟨i, by rw [List.length_set]; exact hi, by rw [List.getElem_set_self]⟩
        have hno2 : ∀ y ∈ m, inWayB y (m[i]!).f1 (m[i]!).f0 true = false := fun y hy => by
          rw [hp.1, inWay_key hp.2, ← hwr]
          exact hno y hy
        refine ⟨⟨?_, fun x hx y hy => ?_⟩, by rw [List.length_set]; omega, hme, hfirm, fun x hx => ?_, fun x hx hxo => ?_, _, hin, hp.1, hp.2, fun _ => rfl⟩
        · rw [List.map_set]
          have e : (m.map (fun x => (x.f1, x.f0.toList))).set i ((m[i]!).f1, (m[i]!).f0.toList) = m.map (fun x => (x.f1, x.f0.toList)) := by
            have : ((m[i]!).f1, (m[i]!).f0.toList) = (m.map (fun x => (x.f1, x.f0.toList)))[i]'(by rw [List.length_map]; exact hi) := by rw [List.getElem_map, getElem!_pos m i hi]
            rw [this]
            exact List.set_getElem_self _
          rw [e]
          exact hmr.nd
        · rcases hv x hx with h1 | h1
          · rcases hv y hy with h2 | h2
            · exact hmr.way x h1 y h2
            · subst h2
              rw [inWay_sym]
              exact hno2 x h1
          · rcases hv y hy with h2 | h2
            · subst h1
              exact hno2 y h2
            · subst h1
              subst h2
              exact inWay_self _ _ _ _ rfl
        · rcases hv x hx with h1 | h1
          · exact .inr ((hmem x).1 h1)
          · subst h1; exact .inl hp.1
        · have hxm := (hmem x).2 ⟨hx, hxo⟩
          by_cases e : x = m[i]!
          · exact ⟨_, hin, by rw [e], by rw [e], fun _ => rfl⟩
          · obtain ⟨j, hj, rfl⟩ := List.mem_iff_getElem.1 hxm
            have hne : i ≠ j := fun e2 => e (by subst e2; rw [getElem!_pos m i hi])
            exact ⟨m[j], by rw [List.mem_iff_getElem]; exact ⟨j, by rw [List.length_set]; exact hj, by rw [List.getElem_set_ne hne]⟩, rfl, rfl, id⟩
      · rename_i h0
        split at h
        · cases h
        · rename_i h4
          obtain ⟨h1, h2⟩ := Prod.mk.inj h
          obtain ⟨h3, _⟩ := Prod.mk.inj h2
          subst h1
          subst h3
          have hnk := findI_all h0
          have hnew : ∀ x ∈ restV l out, inWayB x t key wr = false := hno
          refine ⟨⟨?_, fun x hx y hy => ?_⟩, by rw [List.length_append, List.length_singleton]; omega, hme, hfirm, fun x hx => ?_, fun x hx hxo => ⟨x, List.mem_append.2 (.inl ((hmem x).2 ⟨hx, hxo⟩)), rfl, rfl, id⟩, ⟨key, t, wr⟩, by simp, rfl, rfl, id⟩
          · rw [List.map_append, List.nodup_append]
            refine ⟨hmr.nd, by simp, fun a ha b hb e => ?_⟩
            obtain ⟨x, hx, rfl⟩ := List.mem_map.1 ha
            simp only [List.map_cons, List.map_nil, List.mem_singleton] at hb
            subst hb
            have := hnk x hx
            rw [isHK_iff.2 ⟨(Prod.mk.inj e).1, (Prod.mk.inj e).2⟩] at this
            cases this
          · rcases List.mem_append.1 hx with h1 | h1
            · rcases List.mem_append.1 hy with h2 | h2
              · exact hmr.way x h1 y h2
              · rw [List.mem_singleton.1 h2, inWay_sym]
                exact hnew x h1
            · rw [List.mem_singleton.1 h1]
              rcases List.mem_append.1 hy with h2 | h2
              · exact hnew y h2
              · rw [List.mem_singleton.1 h2]
                exact inWay_self _ _ _ _ rfl
          · rcases List.mem_append.1 hx with h1 | h1
            · exact .inr ((hmem x).1 h1)
            · rw [List.mem_singleton.1 h1]; exact .inl rfl
theorem hasV_iff {l : List S75} {t : S30} {k : ByteArray} {w : Bool} : hasV l t k w = true ↔ ∃ x ∈ l, x.f1 = t ∧ x.f0.toList = k.toList ∧ (w = true → x.f2 = true) := by
  unfold hasV okHas
  rw [List.any_eq_true]
  constructor
  · rintro ⟨x, hx, e⟩
    rw [Bool.and_eq_true, isHK_iff] at e
    exact ⟨x, hx, e.1.1, e.1.2, fun hw => by have := e.2; rw [hw] at this; simpa using this⟩
  · rintro ⟨x, hx, h1, h2, h3⟩
    refine ⟨x, hx, ?_⟩
    rw [Bool.and_eq_true, isHK_iff]
    refine ⟨⟨h1, h2⟩, ?_⟩
    cases w with
    | true => rw [h3 rfl]; rfl
    | false => simp
end Go.Proofs.Ytmcgcdpiceikeaa.PAll
end
