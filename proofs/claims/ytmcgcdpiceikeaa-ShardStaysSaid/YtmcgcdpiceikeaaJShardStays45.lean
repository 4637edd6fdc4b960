/- Joined texts of the claim ShardStays (part 45): contracts of functions and plain laws. -/
import Derived.Test.YtmcgcdpiceikeaaJShardStays44
import Derived.BigQuiet
import Derived.BigRegion
import Derived.Deep.QuietTactic
import Derived.Deep.RegionHeld3
import Derived.Test.YtmcgcdpiceikeaaJShardStays21
set_option linter.unusedVariables false
set_option linter.unusedSimpArgs false
section
namespace Go.Proofs.Ytmcgcdpiceikeaa.PAll
open Go.RowKit Go.Proofs.YtmcgcdpiceikeaaW.PrintWords Go.Proofs.YtmcgcdpiceikeaaW.PrintMore Go.Proofs.Ytmcgcdpiceikeaa
def prepared (s : Shd) (i : Nat) (ps : List S54) : Shd := ⟨s.rows, s.holds, s.opens.set i ⟨(s.opens[i]!).f0, true, false, ps⟩, s.dones, s.ver⟩
theorem preps_cases (s : Shd) (t : S30) (ps : List S54) : ((prepsV s t ps).1 = s) ∨
    (findI (qz25 t) s.dones < 0 ∧ ∃ i, i < s.opens.length ∧ findI (qz16 t) s.opens = (i : Int) ∧ (s.opens[i]!).f2 = false ∧ (s.opens[i]!).f1 = false ∧ fitsV ps = 0 ∧ lacksV s.holds t ps = false ∧ keysV s.rows s.opens ps ≤ 32 ∧ prepsV s t ps = (prepared s i ps, errA 0)) := by
  unfold prepsV prepared
  split
  · left; rfl
  rename_i hd
  split
  · left; rfl
  rename_i ho
  obtain ⟨i, hi, hf⟩ := qz56 _ _ (show 0 ≤ findI (qz16 t) s.opens by omega)
  rw [hf, Int.toNat_natCast]
  split
  · left; rfl
  rename_i h2
  split
  · left; split <;> rfl
  rename_i h1
  split
  · left; rfl
  rename_i h3
  split
  · left; rfl
  rename_i h4
  split
  · left; rfl
  rename_i h5
  right
  exact ⟨by omega, i, hi, rfl, Bool.eq_false_iff.2 h2, Bool.eq_false_iff.2 h1, by simpa using h3, Bool.eq_false_iff.2 h4, by omega, rfl⟩
theorem map_set_same {α β : Type} [Inhabited α] {f : α → β} {l : List α} {i : Nat} {v : α} (hi : i < l.length) (h : f v = f (l[i]!)) : (l.set i v).map f = l.map f := by
  rw [List.map_set]
  have : f v = (l.map f)[i]'(by rw [List.length_map]; exact hi) := by rw [List.getElem_map, h, getElem!_pos l i hi]
  rw [this]
  exact List.set_getElem_self _
theorem set_find {α : Type} [Inhabited α] {l : List α} {i : Nat} {v : α} (hi : i < l.length) {y : α} (hy : y ∈ l) : y ∈ l.set i v ∨ (y = l[i]! ∧ v ∈ l.set i v) := by
  obtain ⟨j, hj, rfl⟩ := List.mem_iff_getElem.1 hy
  by_cases e : i = j
  · subst e
    exact .inr ⟨by rw [getElem!_pos l i hi], List.mem_iff_getElem.2 ⟨i, by rw [List.length_set]; exact hi, by rw [List.getElem_set_self]⟩⟩
  · exact .inl (List.mem_iff_getElem.2 ⟨j, by rw [List.length_set]; exact hj, by rw [List.getElem_set_ne e]⟩)
theorem InvS.prepared {s : Shd} (h : InvS s) {t : S30} {ps : List S54} {i : Nat} (hi : i < s.opens.length) (hf : findI (qz16 t) s.opens = (i : Int)) (h2 : (s.opens[i]!).f2 = false) (h1 : (s.opens[i]!).f1 = false) (hfit : fitsV ps = 0) (hlk : lacksV s.holds t ps = false) (hk : keysV s.rows s.opens ps ≤ 32) : InvS (PAll.prepared s i ps) := by
  have e0 : (s.opens[i]!).f0 = t := same_iff.1 (findI_bang (p := qz16 t) hi hf)
  have hm : ∀ x ∈ (PAll.prepared s i ps).opens, x ∈ s.opens ∨ x = ⟨(s.opens[i]!).f0, true, false, ps⟩ := fun x hx => List.mem_or_eq_of_mem_set hx
  have hi0 := bang_mem hi
  refine ⟨h.rows, h.locks, by unfold PAll.prepared; dsimp only; rw [List.length_set]; exact h.n, ?_, ?_, h.dun, ?_, ?_, ?_, h.h48, h.okh, ?_, h.ver0, h.verd⟩
  · refine Nat.le_trans (keysV_le (fun k hk' => ?_)) hk
    rcases hk' with hk' | ⟨x, hx, x1, p, hp, p2, p3⟩ | ⟨p, hp, _⟩
    · exact .inl hk'
    · rcases hm x hx with hx | rfl
      · exact .inr (.inl ⟨x, hx, x1, p, hp, p2, p3⟩)
      · exact .inr (.inr ⟨p, hp, p2, p3⟩)
    · cases hp
  · unfold PAll.prepared
    dsimp only
    rw [map_set_same (f := fun x : S48 => x.f0) (v := ⟨(s.opens[i]!).f0, true, false, ps⟩) hi rfl]
    exact h.uniq
  · intro x hx d hd
    rcases hm x hx with hx | rfl
    · exact h.apart x hx d hd
    · exact h.apart (s.opens[i]!) hi0 d hd
  · intro x hx
    rcases hm x hx with hx | rfl
    · exact h.wf x hx
    · refine ⟨fun _ => rfl, (fun e => by cases e), hfit, fun p hp => ?_⟩
      show hasV s.holds (s.opens[i]!).f0 p.f0 true = true
      rw [e0]
      unfold lacksV at hlk
      have := List.any_eq_false.1 hlk p hp
      simpa using this
  · intro x hx
    obtain ⟨y, hy, y1, y2⟩ := h.held x hx
    rcases set_find (v := ⟨(s.opens[i]!).f0, true, false, ps⟩) hi hy with hy' | ⟨rfl, hv⟩
    · exact ⟨y, hy', y1, y2⟩
    · exact ⟨_, hv, y1, rfl⟩
  · intro x hx
    rcases hm x hx with hx | rfl
    · exact h.oko x hx
    · exact h.oko (s.opens[i]!) hi0
theorem look_some {l : List S50} {r : S50} (h : r ∈ l) : lookR l r.f0 ≠ none := by
  unfold lookR
  intro e
  have := List.find?_eq_none.1 e r h
  exact this (keyIs_eq.2 rfl)
theorem look_mem {l : List S50} {k : ByteArray} (h : lookR l k ≠ none) : ∃ r ∈ l, r.f0 = k := by
  unfold lookR at h
  cases e : l.find? (keyIs k) with
  | none => exact absurd e h
  | some r => exact ⟨r, List.mem_of_find?_eq_some e, toList_inj (keyIs_eq.1 (List.find?_some e))⟩
theorem all_keys {rs rl : List S50} {ps : List S54} {ver : Int} (hr : rightR rs = true) (hv : ver ≤ 4611686018427387903) (ha : allV rs ps ver = (rl, 0)) : rightR rl = true ∧ ∀ r ∈ rl, (∃ q ∈ rs, q.f0 = r.f0) ∨ ∃ p ∈ ps, p.f2 = false ∧ p.f0 = r.f0 := by
  obtain ⟨b1, b2, b3, _⟩ := allV_right rs ps ver hr hv (by rw [ha])
  rw [ha] at b1 b2 b3
  refine ⟨b1, fun r hr' => ?_⟩
  have hne := look_some hr'
  by_cases hk : ∃ p ∈ ps, p.f0.toList = r.f0.toList
  · obtain ⟨p, hp, e⟩ := hk
    have e := toList_inj e
    have h2 := b2 p hp
    rw [e] at h2
    cases hg : p.f2 with
    | true => rw [hg] at h2; exact absurd h2 hne
    | false => exact .inr ⟨p, hp, hg, e⟩
  · have h3 := b3 r.f0 (fun p hp e => hk ⟨p, hp, e⟩)
    dsimp only at h3 hne
    rw [h3] at hne
    exact .inl (look_mem hne)
theorem fins_cases (s : Shd) (t : S30) (cm : Bool) : (finsV s t cm).1 = s ∨ (findI (qz25 t) s.dones < 0 ∧ (findI (qz16 t) s.opens < 0 → cm = false ∧ s.opens.length + s.dones.length < 64) ∧ ∃ rows ver, finsV s t cm = finS s t cm rows ver ∧
    ((rows = s.rows ∧ ver = s.ver) ∨ ∃ i, i < s.opens.length ∧ findI (qz16 t) s.opens = (i : Int) ∧ cm = true ∧ (s.opens[i]!).f1 = true ∧ (s.opens[i]!).f3 ≠ [] ∧ ver = IntKind.u64.wrap (s.ver + 1) ∧ allV s.rows (s.opens[i]!).f3 ver = (rows, 0))) := by
  unfold finsV
  split
  · left; rfl
  rename_i hd
  split
  · rename_i ho
    split
    · left; rfl
    · rename_i hc
      split
      · left; rfl
      · rename_i h6
        right
        exact ⟨by omega, fun _ => ⟨by simpa using hc, by omega⟩, _, _, rfl, .inl ⟨rfl, rfl⟩⟩
  rename_i ho
  obtain ⟨i, hi, hf⟩ := qz56 _ _ (show 0 ≤ findI (qz16 t) s.opens by omega)
  rw [hf, Int.toNat_natCast]
  split
  · left; rfl
  rename_i h1
  split
  · rename_i h3
    split
    · left; rfl
    · rename_i he
      right
      refine ⟨by omega, fun h => by omega, _, _, rfl, .inr ⟨i, hi, rfl, h3.1, ?_, h3.2, rfl, ?_⟩⟩
      · cases hq : (s.opens[i]!).f1 with
        | true => rfl
        | false => exact absurd ⟨h3.1, hq⟩ h1
      · have he : (allV s.rows (s.opens[i]!).f3 (IntKind.u64.wrap (s.ver + 1))).2 = 0 := by simpa using he
        rw [← he]
  · right
    exact ⟨by omega, fun h => by omega, _, _, rfl, .inl ⟨rfl, rfl⟩⟩
theorem InvS.finished {s : Shd} (h : InvS s) {t : S30} {cm : Bool} {rows : List S50} {ver : Int} (hd : findI (qz25 t) s.dones < 0) (hn : findI (qz16 t) s.opens < 0 → s.opens.length + s.dones.length < 64) (hr : rightR rows = true) (hk : ∀ k, inKeys rows s.opens [] k → inKeys s.rows s.opens [] k) (hv0 : 0 ≤ ver) (hv : ver ≤ s.dones.length + 1) : InvS (finS s t cm rows ver).1 := by
  have hop : ∀ x ∈ s.opens.filter (fun x => !qz34 x.f0 t), x ∈ s.opens ∧ x.f0 ≠ t := fun x hx => by
    rw [List.mem_filter, Bool.not_eq_true'] at hx
    exact ⟨hx.1, same_false.1 hx.2⟩
  have hop2 : ∀ x ∈ s.opens, x.f0 ≠ t → x ∈ s.opens.filter (fun x => !qz34 x.f0 t) := fun x hx he => List.mem_filter.2 ⟨hx, by rw [same_false.2 he]; rfl⟩
  have hho : ∀ x ∈ dropV s.holds t, x ∈ s.holds ∧ x.f1 ≠ t := fun x hx => by
    unfold dropV at hx
    rw [List.mem_filter, Bool.not_eq_true'] at hx
    exact ⟨hx.1, same_false.1 hx.2⟩
  have hho2 : ∀ x ∈ s.holds, x.f1 ≠ t → x ∈ dropV s.holds t := fun x hx he => List.mem_filter.2 ⟨hx, by rw [same_false.2 he]; rfl⟩
  have hdn : ∀ d ∈ s.dones, d.f0 ≠ t := fun d hd' e => by have := over_iff.2 ⟨d, hd', e⟩; omega
  unfold finS
  refine ⟨hr, h.locks.filter _, ?_, ?_, ?_, ?_, ?_, ?_, ?_, Nat.le_trans (List.length_filter_le _ _) h.h48, fun x hx => h.okh x (hho x hx).1, fun x hx => h.oko x (hop x hx).1, hv0, by simp; omega⟩
  · dsimp only
    rw [List.length_append, List.length_singleton]
    have hle := List.length_filter_le (fun x => !qz34 x.f0 t) s.opens
    have h0 := h.n
    rcases Int.lt_or_le (findI (qz16 t) s.opens) 0 with hf | hf
    · have := hn hf; omega
    · obtain ⟨x, hx, e⟩ := known_iff.1 hf
      have : (s.opens.filter (fun x => !qz34 x.f0 t)).length < s.opens.length := by
        refine Nat.lt_of_le_of_ne hle (fun e2 => ?_)
        have := List.length_filter_eq_length_iff.1 e2 x hx
        rw [e, same_iff.2 rfl] at this
        cases this
      omega
  · refine Nat.le_trans (keysV_le (fun k hk' => hk k ?_)) h.keys
    rcases hk' with hk' | ⟨x, hx, x1, x2⟩ | hk'
    · exact .inl hk'
    · exact .inr (.inl ⟨x, (hop x hx).1, x1, x2⟩)
    · exact .inr (.inr hk')
  · exact h.uniq.sublist ((List.filter_sublist).map _)
  · dsimp only
    rw [List.map_append, List.nodup_append]
    refine ⟨h.dun, by simp, fun a ha b hb e => ?_⟩
    obtain ⟨d, hd', rfl⟩ := List.mem_map.1 ha
    simp at hb
    exact hdn d hd' (e.trans hb)
  · intro x hx d hd'
    rcases List.mem_append.1 hd' with h1 | h1
    · exact h.apart x (hop x hx).1 d h1
    · rw [List.mem_singleton.1 h1]
      exact (hop x hx).2
  · intro x hx
    obtain ⟨w1, w2, w3, w4⟩ := h.wf x (hop x hx).1
    refine ⟨w1, w2, w3, fun p hp => ?_⟩
    obtain ⟨z, hz, z1, z2, z3⟩ := hasV_iff.1 (w4 p hp)
    exact hasV_iff.2 ⟨z, hho2 z hz (by rw [z1]; exact (hop x hx).2), z1, z2, z3⟩
  · intro x hx
    obtain ⟨y, hy, y1, y2⟩ := h.held x (hho x hx).1
    exact ⟨y, hop2 y hy (by rw [y1]; exact (hho x hx).2), y1, y2⟩
theorem ver_wrap {s : Shd} (h : InvS s) : IntKind.u64.wrap (s.ver + 1) = s.ver + 1 ∧ s.ver + 1 ≤ s.dones.length + 1 := by
  have h0 := h.ver0
  have h1 := h.verd
  have h2 := h.n
  rw [IntKind.wrap_u64]
  omega
theorem InvS.doS {s : Shd} (h : InvS s) (kind : Int) {t : S30} (hok : okTx t) (key : ByteArray) (ps : List S54) (cm : Bool) : InvS (PAll.doS s kind t key ps cm).1 ∧ s.ver ≤ (PAll.doS s kind t key ps cm).1.ver := by
  unfold PAll.doS
  split
  · rcases asks_cases s kind t key with ⟨e, _⟩ | ⟨hd, _, _, h2, hn, rh, rw_, ha, e⟩
    · rw [e]; exact ⟨h, Int.le_refl _⟩
    · rw [e]; exact ⟨h.asked hok hd (fun hf => (h2 hf).1) hn ha, Int.le_refl _⟩
  split
  · rcases preps_cases s t ps with e | ⟨_, i, hi, hf, h2, h1, hfit, hlk, hk, e⟩
    · rw [e]; exact ⟨h, Int.le_refl _⟩
    · rw [e]; exact ⟨h.prepared hi hf h2 h1 hfit hlk hk, Int.le_refl _⟩
  split
  · rcases fins_cases s t cm with e | ⟨hd, hn, rows, ver, e, hr⟩
    · rw [e]; exact ⟨h, Int.le_refl _⟩
    · rw [e]
      rcases hr with ⟨rfl, rfl⟩ | ⟨i, hi, hf, hcm, h1, h3, hver, hall⟩
      · exact ⟨h.finished hd (fun hf => (hn hf).2) h.rows (fun k hk => hk) h.ver0 (by have := h.verd; omega), Int.le_refl _⟩
      · obtain ⟨v1, v2⟩ := ver_wrap h
        have hd64 := h.n
        have h0 := h.ver0
        rw [v1] at hver
        obtain ⟨r1, r2⟩ := all_keys h.rows (by omega) hall
        refine ⟨h.finished hd (fun hf => (hn hf).2) r1 (fun k hk => ?_) (by omega) (by omega), ?_⟩
        · rcases hk with ⟨r, hr, e⟩ | hk | hk
          · rcases r2 r hr with ⟨q, hq, e2⟩ | ⟨p, hp, p2, e2⟩
            · exact .inl ⟨q, hq, e2.trans e⟩
            · exact .inr (.inl ⟨_, bang_mem hi, h1, p, hp, p2, e2.trans e⟩)
          · exact .inr (.inl hk)
          · exact .inr (.inr hk)
        · show s.ver ≤ ver
          omega
  · exact ⟨h, Int.le_refl _⟩
def exT : S30 := ⟨1, 0⟩
def exP : List S54 := [⟨⟨#[97]⟩, ⟨#[49]⟩, false⟩]
def ex1 : Shd × Ans := doS ⟨[], [], [], [], 0⟩ 2 exT ⟨#[97]⟩ [] false
def ex2 : Shd × Ans := doS ex1.1 3 exT ⟨#[]⟩ exP false
def ex3 : Shd × Ans := doS ex2.1 4 exT ⟨#[]⟩ [] true
def ex4 : Shd × Ans := doS ex3.1 4 exT ⟨#[]⟩ [] false
set_option maxRecDepth 100000 in
theorem ex1_val : ex1 = (⟨[], [⟨⟨#[97]⟩, exT, true⟩], [⟨exT, false, false, []⟩], [], 0⟩, ⟨0, ⟨#[]⟩, 0, false, false⟩) := by kernel_rfl
set_option maxRecDepth 100000 in
theorem ex2_val : ex2 = (⟨[], [⟨⟨#[97]⟩, exT, true⟩], [⟨exT, true, false, exP⟩], [], 0⟩, ⟨0, ⟨#[]⟩, 0, false, false⟩) := by
  unfold ex2
  rw [ex1_val]
  kernel_rfl
set_option maxRecDepth 100000 in
theorem ex3_val : ex3 = (⟨[⟨⟨#[97]⟩, ⟨#[49]⟩, 1⟩], [], [], [⟨exT, true⟩], 1⟩, ⟨0, ⟨#[]⟩, 0, false, true⟩) := by
  unfold ex3
  rw [ex2_val]
  kernel_rfl
set_option maxRecDepth 100000 in
theorem ex4_val : ex4.2 = ⟨13, ⟨#[]⟩, 0, false, true⟩ := by
  unfold ex4
  rw [ex3_val]
  kernel_rfl
structure S34 where
  f0 : Int
  f1 : S30
  f2 : ByteArray
  f3 : (List S54)
  f4 : Bool
  f5 : (List Int)
def k34 : Kd S34 := Kd.iso (Kd.pair (Kd.int .i64) (Kd.pair k30 (Kd.pair Kd.string (Kd.pair (Kd.slice 54 k54) (Kd.pair Kd.bool (Kd.slice 26 (Kd.int .u64))))))) (fun x : S34 => (x.f0, x.f1, x.f2, x.f3, x.f4, x.f5))
def ShdAt (w : World) (q : Nat) (s : Shd) : Prop := ∃ A0 c0 A1 c1 A2 c2 A3 c3, w.heap[q]? = some (.cells #[.slice A0 s.rows.length c0, .slice A1 s.holds.length c1, .slice A2 s.opens.length c2, .slice A3 s.dones.length c3, .int .u64 s.ver] 28 (0, 0)) ∧ (Kd.C k50 w A0 s.rows.length s.rows ∧ s.rows.length ≤ c0) ∧ (Kd.C k75 w A1 s.holds.length s.holds ∧ s.holds.length ≤ c1) ∧ (Kd.C k48 w A2 s.opens.length s.opens ∧ s.opens.length ≤ c2) ∧ (Kd.C k68 w A3 s.dones.length s.dones ∧ s.dones.length ≤ c3)
theorem ShdAt.lt {w : World} {q : Nat} {s : Shd} (h : ShdAt w q s) : q < w.heap.size := by
  obtain ⟨_, _, _, _, _, _, _, _, h, _⟩ := h
  exact (Array.getElem?_eq_some_iff.1 h).1
theorem ShdAt.below {w w' : World} {q : Nat} {s : Shd} (h : ShdAt w q s) (hb : Below w.heap.size w w') : ShdAt w' q s := by
  have hl := h.lt
  obtain ⟨A0, c0, A1, c1, A2, c2, A3, c3, h, ⟨a, a'⟩, ⟨b, b'⟩, ⟨c, c'⟩, ⟨d, d'⟩⟩ := h
  exact ⟨A0, c0, A1, c1, A2, c2, A3, c3, (hb.block q hl).trans h, ⟨Kd.C_below a hb, a'⟩, ⟨Kd.C_below b hb, b'⟩, ⟨Kd.C_below c hb, c'⟩, ⟨Kd.C_below d hb, d'⟩⟩
theorem ShdAt.of {w : World} {q : Nat} {s : Shd} {A0 A1 A2 A3 : Option Addr} {n0 c0 n1 c1 n2 c2 n3 c3 : Nat} (h : w.heap[q]? = some (.cells #[.slice A0 n0 c0, .slice A1 n1 c1, .slice A2 n2 c2, .slice A3 n3 c3, .int .u64 s.ver] 28 (0, 0))) (hv : ShdV w (.agg #[.slice A0 n0 c0, .slice A1 n1 c1, .slice A2 n2 c2, .slice A3 n3 c3, .int .u64 s.ver]) s) : ShdAt w q s := by
  obtain ⟨v0, v1, v2, v3, e, ⟨B0, d0, rfl, a', a⟩, ⟨B1, d1, rfl, b', b⟩, ⟨B2, d2, rfl, c', c⟩, ⟨B3, d3, rfl, d', d⟩⟩ := hv
  simp only [Value.agg.injEq, Array.mk.injEq, List.cons.injEq, Value.slice.injEq, and_true] at e
  obtain ⟨⟨rfl, rfl, rfl⟩, ⟨rfl, rfl, rfl⟩, ⟨rfl, rfl, rfl⟩, ⟨rfl, rfl, rfl⟩⟩ := e
  exact ⟨_, _, _, _, _, _, _, _, h, ⟨a, a'⟩, ⟨b, b'⟩, ⟨c, c'⟩, ⟨d, d'⟩⟩
theorem ShdAt.made {w : World} {s : Shd} {A0 A1 A2 A3 : Option Addr} {n0 c0 n1 c1 n2 c2 n3 c3 : Nat} (hv : ShdV w (.agg #[.slice A0 n0 c0, .slice A1 n1 c1, .slice A2 n2 c2, .slice A3 n3 c3, .int .u64 s.ver]) s) : ShdAt (w.alloc (.cells #[.slice A0 n0 c0, .slice A1 n1 c1, .slice A2 n2 c2, .slice A3 n3 c3, .int .u64 s.ver] 28)) w.heap.size s :=
  ShdAt.of (heap_alloc_new w _) (hv.below ((Below.refl _ _).alloc (Nat.le_refl _) _))
theorem ShdAt.put {w : World} {q : Nat} {s : Shd} {B0 B1 B2 B3 : Option Addr} {m0 d0 m1 d1 m2 d2 m3 d3 : Nat} {u : Int} {A0 A1 A2 A3 : Option Addr} {n0 c0 n1 c1 n2 c2 n3 c3 : Nat} (h : w.heap[q]? = some (.cells #[.slice B0 m0 d0, .slice B1 m1 d1, .slice B2 m2 d2, .slice B3 m3 d3, .int .u64 u] 28 (0, 0))) (hv : ShdV w (.agg #[.slice A0 n0 c0, .slice A1 n1 c1, .slice A2 n2 c2, .slice A3 n3 c3, .int .u64 s.ver]) s) :
    ShdAt (put5 w q (.slice A0 n0 c0) (.slice A1 n1 c1) (.slice A2 n2 c2) (.slice A3 n3 c3) (.int .u64 s.ver)) q s :=
  ShdAt.of (put5_at h _ _ _ _ _) (hv.grown (noRow_z h) (put5_grown w q _ _ _ _ _))
theorem do_at {W : World} {q : Nat} {s : Shd} (h : ShdAt W q s) : ∃ (A0 : Option Addr) (n0 c0 : Nat) (A1 : Option Addr) (n1 c1 : Nat) (A2 : Option Addr) (n2 c2 : Nat) (A3 : Option Addr) (n3 c3 : Nat), W.heap[q]? = some (.cells #[.slice A0 n0 c0, .slice A1 n1 c1, .slice A2 n2 c2, .slice A3 n3 c3, .int .u64 s.ver] 28 (0, 0)) ∧
    ∀ (kind : Int) (t : S30) (key : ByteArray) (A4 : Option Addr) (n4 c4 : Nat) (cm : Bool) (A5 : Option Addr) (n5 c5 : Nat) (ps : List S54) (W' : World), n4 = ps.length → Kd.C k54 W' A4 ps.length ps → ps.length ≤ c4 → ShdOk s → Below W.heap.size W W' →
      Calls Try.prog 11 #[.agg #[.slice A0 n0 c0, .slice A1 n1 c1, .slice A2 n2 c2, .slice A3 n3 c3, .int .u64 s.ver], .agg #[.int .i64 kind, .int .u64 t.f0, .int .u64 t.f1, .string key, .slice A4 n4 c4, .bool cm, .slice A5 n5 c5]] W' (qz32 W' (doS s kind t key ps cm)) := by
  obtain ⟨A0, c0, A1, c1, A2, c2, A3, c3, h, ⟨a, a'⟩, ⟨b, b'⟩, ⟨c, c'⟩, ⟨d, d'⟩⟩ := h
  refine ⟨A0, _, c0, A1, _, c1, A2, _, c2, A3, _, c3, h, fun kind t key A4 n4 c4 cm A5 n5 c5 ps W' hn hr hc hok hb => ?_⟩
  subst hn
  exact do_calls kind t key A4 c4 cm A5 n5 c5 A0 c0 A1 c1 A2 c2 A3 c3 s.rows s.holds s.opens s.dones s.ver W' (Kd.C_below a hb) a' (Kd.C_below b hb) b' (Kd.C_below c hb) c' (Kd.C_below d hb) d' ps hr hc hok
theorem do_nil (kind : Int) (t : S30) (key : ByteArray) (A4 : Option Addr) (n4 c4 : Nat) (cm : Bool) (A5 : Option Addr) (n5 c5 : Nat) (ps : List S54) (W' : World) (hn : n4 = ps.length) (hr : Kd.C k54 W' A4 ps.length ps) (hc : ps.length ≤ c4) :
    Calls Try.prog 11 #[.agg #[.slice none 0 0, .slice none 0 0, .slice none 0 0, .slice none 0 0, .int .u64 0], .agg #[.int .i64 kind, .int .u64 t.f0, .int .u64 t.f1, .string key, .slice A4 n4 c4, .bool cm, .slice A5 n5 c5]] W' (qz32 W' (doS ⟨[], [], [], [], 0⟩ kind t key ps cm)) := by
  subst hn
  exact do_calls kind t key A4 c4 cm A5 n5 c5 none 0 none 0 none 0 none 0 [] [] [] [] 0 W' (Kd.C_nil _ _) (Nat.le_refl _) (Kd.C_nil _ _) (Nat.le_refl _) (Kd.C_nil _ _) (Nat.le_refl _) (Kd.C_nil _ _) (Nat.le_refl _) ps hr hc InvS.empty.ok
theorem cells_2 {w : World} {b : Nat} {t : TypeId} {a0 a1 : Value} (h : w.heap[b]? = some (.cells #[a0, a1] t (0, 0))) : w.cell? ⟨b, 0, none⟩ = some a0 ∧ w.cell? ⟨b, 1, none⟩ = some a1 :=
  ⟨qz15 (cs := [a0, a1]) h 0, qz15 (cs := [a0, a1]) h 1⟩
set_option maxHeartbeats 2000000 in
set_option maxRecDepth 100000 in
theorem known13_calls (v0 v1 v3 : Value) (A : Option Addr) (c : Nat) (l : List S48) (ver : Int) (t : S30) (w : World) (hr : Kd.C k48 w A l.length l) :
    Calls Try.prog 34 #[.agg #[v0, v1, .slice A l.length c, v3, .int .u64 ver], .agg #[.int .u64 t.f0, .int .u64 t.f1]] w fun e w' => e = .returned (.int .i64 (findI (qz16 t) l)) ∧ Below w.heap.size w w' := by
  have hn : l.length ≤ 9223372036854775807 := hr.2.1
  obtain ⟨ta, ti⟩ := t
  have hxa := stayA (heap_alloc_new w (.cells #[v0, v1, .slice A l.length c, v3, .int .u64 ver] 28)) (.cells #[.int .u64 ta, .int .u64 ti] 30)
  have hxb := heap_alloc_new (w.alloc (.cells #[v0, v1, .slice A l.length c, v3, .int .u64 ver] 28)) (.cells #[.int .u64 ta, .int .u64 ti] 30)
  rw [World.size_alloc] at hxb
  have HB0 := qza.mk (((Below.refl w.heap.size w).alloc (Nat.le_refl _) (.cells #[v0, v1, .slice A l.length c, v3, .int .u64 ver] 28)).alloc (by simp) (.cells #[.int .u64 ta, .int .u64 ti] 30))
  go_enter Try.func34, Try.ntmps34
  have HXA := qza.mk (fun (W : World) (h : Below ((w.alloc (.cells #[v0, v1, .slice A l.length c, v3, .int .u64 ver] 28)).alloc (.cells #[.int .u64 ta, .int .u64 ti] 30)).heap.size ((w.alloc (.cells #[v0, v1, .slice A l.length c, v3, .int .u64 ver] 28)).alloc (.cells #[.int .u64 ta, .int .u64 ti] 30)) W) => stay h hxa (Array.getElem?_eq_some_iff.1 hxa).1)
  have HXB := qza.mk (fun (W : World) (h : Below ((w.alloc (.cells #[v0, v1, .slice A l.length c, v3, .int .u64 ver] 28)).alloc (.cells #[.int .u64 ta, .int .u64 ti] 30)).heap.size ((w.alloc (.cells #[v0, v1, .slice A l.length c, v3, .int .u64 ver] 28)).alloc (.cells #[.int .u64 ta, .int .u64 ti] 30)) W) => stay h hxb (Array.getElem?_eq_some_iff.1 hxb).1)
  clear hxa hxb
  go_wp2
  generalize (w.alloc (.cells #[v0, v1, .slice A l.length c, v3, .int .u64 ver] 28)).alloc (.cells #[.int .u64 ta, .int .u64 ti] 30) = W1 at *
  go_loopg [5] l.length (fun gg s5 wv => ∃ kk : Nat, kk ≤ l.length ∧ l.length - kk ≤ gg ∧ s5 = .int .i64 kk ∧ (∀ j, j < kk → qz16 ⟨ta, ti⟩ l[j]! = false) ∧ qza (Below W1.heap.size W1 wv))
  case atStart => exact ⟨0, Nat.zero_le _, by omega, rfl, fun _ h => absurd h (by omega), ⟨Below.refl _ _⟩⟩
  case round =>
    obtain ⟨kk, hkk, hgk, rfl, hno, HBv⟩ := hrel
    obtain ⟨ha0, ha1, ha2, ha3, ha4⟩ := qz4 (HXA.out _ HBv.out)
    obtain ⟨hk0, hk1⟩ := cells_2 (HXB.out _ HBv.out)
    have HBw := HB0.out.trans (HBv.out.mono HB0.out.size)
    by_cases hlt : kk < l.length
    · have hltz : (kk : Int) < (l.length : Int) := by omega
      have hkz : (0 : Int) ≤ (kk : Int) := by omega
      obtain ⟨xb, xo, rfl, P, pc, hp1, hp2, hx0, hx1, hx2, hx3, hx4⟩ := qz53 (Kd.C_below hr HBw) kk hlt
      cases hp : qz16 ⟨ta, ti⟩ l[kk]! with
      | true =>
        have he : ((l[kk]!).f0.f0 = ta ∧ (l[kk]!).f0.f1 = ti) := by
          have := same_iff.1 hp; exact ⟨congrArg (·.f0) this, congrArg (·.f1) this⟩
        obtain ⟨e0, e1⟩ := he
        rw [e0] at hx0
        rw [e1] at hx1
        go_wp2
        go_quiet (fail)
        go_wp2
        go_ret
        exact ⟨by rw [findI_hit _ _ kk hlt hp hno]; rfl, qz0 HBw _⟩
      | false =>
        have hne : ¬ ((l[kk]!).f0.f0 = ta ∧ (l[kk]!).f0.f1 = ti) := fun ⟨e0, e1⟩ => by
          have : qz16 ⟨ta, ti⟩ l[kk]! = true := same_iff.2 (by cases h : (l[kk]!).f0; rw [h] at e0 e1; cases e0; cases e1; rfl)
          rw [hp] at this; cases this
        generalize (l[kk]!).f0.f0 = ya at *
        generalize (l[kk]!).f0.f1 = yi at *
        have hno' : ∀ j, j < kk + 1 → qz16 ⟨ta, ti⟩ l[j]! = false := fun j hj => by
          by_cases e : j = kk
          · rw [e]; exact hp
          · exact hno j (by omega)
        clear hp hno
        by_cases h0 : ya = ta
        · subst h0
          have h1 : ¬ yi = ti := fun e => hne ⟨rfl, e⟩
          clear hne
          go_wp2
          go_quiet (fail)
          go_wp2
          go_roundg (l.length - (kk + 1))
          case measure => omega
          case rel => exact ⟨kk + 1, by omega, by omega, by go_num, hno', ⟨qz0 HBv.out _⟩⟩
        · clear hne
          go_wp2
          go_quiet (fail)
          go_wp2
          go_roundg (l.length - (kk + 1))
          case measure => omega
          case rel => exact ⟨kk + 1, by omega, by omega, by go_num, hno', ⟨qz0 HBv.out _⟩⟩
    · have hltz : ¬ (kk : Int) < (l.length : Int) := by omega
      go_wp2
      go_ret
      exact ⟨by rw [qz74 _ _ (fun j hj => hno j (by omega))]; rfl, HBw⟩
set_option maxHeartbeats 2000000 in
set_option maxRecDepth 100000 in
theorem over13_calls (v0 v1 v2 : Value) (A : Option Addr) (c : Nat) (l : List S68) (ver : Int) (t : S30) (w : World) (hr : Kd.C k68 w A l.length l) :
    Calls Try.prog 35 #[.agg #[v0, v1, v2, .slice A l.length c, .int .u64 ver], .agg #[.int .u64 t.f0, .int .u64 t.f1]] w fun e w' => e = .returned (.int .i64 (findI (qz25 t) l)) ∧ Below w.heap.size w w' := by
  have hn : l.length ≤ 9223372036854775807 := hr.2.1
  obtain ⟨ta, ti⟩ := t
  have hxa := stayA (heap_alloc_new w (.cells #[v0, v1, v2, .slice A l.length c, .int .u64 ver] 28)) (.cells #[.int .u64 ta, .int .u64 ti] 30)
  have hxb := heap_alloc_new (w.alloc (.cells #[v0, v1, v2, .slice A l.length c, .int .u64 ver] 28)) (.cells #[.int .u64 ta, .int .u64 ti] 30)
  rw [World.size_alloc] at hxb
  have HB0 := qza.mk (((Below.refl w.heap.size w).alloc (Nat.le_refl _) (.cells #[v0, v1, v2, .slice A l.length c, .int .u64 ver] 28)).alloc (by simp) (.cells #[.int .u64 ta, .int .u64 ti] 30))
  go_enter Try.func35, Try.ntmps35
  have HXA := qza.mk (fun (W : World) (h : Below ((w.alloc (.cells #[v0, v1, v2, .slice A l.length c, .int .u64 ver] 28)).alloc (.cells #[.int .u64 ta, .int .u64 ti] 30)).heap.size ((w.alloc (.cells #[v0, v1, v2, .slice A l.length c, .int .u64 ver] 28)).alloc (.cells #[.int .u64 ta, .int .u64 ti] 30)) W) => stay h hxa (Array.getElem?_eq_some_iff.1 hxa).1)
  have HXB := qza.mk (fun (W : World) (h : Below ((w.alloc (.cells #[v0, v1, v2, .slice A l.length c, .int .u64 ver] 28)).alloc (.cells #[.int .u64 ta, .int .u64 ti] 30)).heap.size ((w.alloc (.cells #[v0, v1, v2, .slice A l.length c, .int .u64 ver] 28)).alloc (.cells #[.int .u64 ta, .int .u64 ti] 30)) W) => stay h hxb (Array.getElem?_eq_some_iff.1 hxb).1)
  clear hxa hxb
  go_wp2
  generalize (w.alloc (.cells #[v0, v1, v2, .slice A l.length c, .int .u64 ver] 28)).alloc (.cells #[.int .u64 ta, .int .u64 ti] 30) = W1 at *
  go_loopg [5] l.length (fun gg s5 wv => ∃ kk : Nat, kk ≤ l.length ∧ l.length - kk ≤ gg ∧ s5 = .int .i64 kk ∧ (∀ j, j < kk → qz25 ⟨ta, ti⟩ l[j]! = false) ∧ qza (Below W1.heap.size W1 wv))
  case atStart => exact ⟨0, Nat.zero_le _, by omega, rfl, fun _ h => absurd h (by omega), ⟨Below.refl _ _⟩⟩
  case round =>
    obtain ⟨kk, hkk, hgk, rfl, hno, HBv⟩ := hrel
    obtain ⟨ha0, ha1, ha2, ha3, ha4⟩ := qz4 (HXA.out _ HBv.out)
    obtain ⟨hk0, hk1⟩ := cells_2 (HXB.out _ HBv.out)
    have HBw := HB0.out.trans (HBv.out.mono HB0.out.size)
    by_cases hlt : kk < l.length
    · have hltz : (kk : Int) < (l.length : Int) := by omega
      have hkz : (0 : Int) ≤ (kk : Int) := by omega
      obtain ⟨xb, xo, rfl, hx0, hx1, hx2⟩ := doneRow (Kd.C_below hr HBw) kk hlt
      cases hp : qz25 ⟨ta, ti⟩ l[kk]! with
      | true =>
        have he : ((l[kk]!).f0.f0 = ta ∧ (l[kk]!).f0.f1 = ti) := by
          have := same_iff.1 hp; exact ⟨congrArg (·.f0) this, congrArg (·.f1) this⟩
        obtain ⟨e0, e1⟩ := he
        rw [e0] at hx0
        rw [e1] at hx1
        go_wp2
        go_quiet (fail)
        go_wp2
        go_ret
        exact ⟨by rw [findI_hit _ _ kk hlt hp hno]; rfl, qz0 HBw _⟩
      | false =>
        have hne : ¬ ((l[kk]!).f0.f0 = ta ∧ (l[kk]!).f0.f1 = ti) := fun ⟨e0, e1⟩ => by
          have : qz25 ⟨ta, ti⟩ l[kk]! = true := same_iff.2 (by cases h : (l[kk]!).f0; rw [h] at e0 e1; cases e0; cases e1; rfl)
          rw [hp] at this; cases this
        generalize (l[kk]!).f0.f0 = ya at *
        generalize (l[kk]!).f0.f1 = yi at *
        have hno' : ∀ j, j < kk + 1 → qz25 ⟨ta, ti⟩ l[j]! = false := fun j hj => by
          by_cases e : j = kk
          · rw [e]; exact hp
          · exact hno j (by omega)
        clear hp hno
        by_cases h0 : ya = ta
        · subst h0
          have h1 : ¬ yi = ti := fun e => hne ⟨rfl, e⟩
          clear hne
          go_wp2
          go_quiet (fail)
          go_wp2
          go_roundg (l.length - (kk + 1))
          case measure => omega
          case rel => exact ⟨kk + 1, by omega, by omega, by go_num, hno', ⟨qz0 HBv.out _⟩⟩
        · clear hne
          go_wp2
          go_quiet (fail)
          go_wp2
          go_roundg (l.length - (kk + 1))
          case measure => omega
          case rel => exact ⟨kk + 1, by omega, by omega, by go_num, hno', ⟨qz0 HBv.out _⟩⟩
    · have hltz : ¬ (kk : Int) < (l.length : Int) := by omega
      go_wp2
      go_ret
      exact ⟨by rw [qz74 _ _ (fun j hj => hno j (by omega))]; rfl, HBw⟩
def RowH (W : World) (b a : Nat) (x : S75) : Prop := W.cell? ⟨b, a, none⟩ = some (.string x.f0) ∧ W.cell? ⟨b, a + 1, none⟩ = some (.int .u64 x.f1.f0) ∧ W.cell? ⟨b, a + 2, none⟩ = some (.int .u64 x.f1.f1) ∧ W.cell? ⟨b, a + 3, none⟩ = some (.bool x.f2)
theorem RowH.keep {W w' : World} {b a : Nat} {x : S75} (h : RowH W b a x) (hb : Below W.heap.size W w') : RowH w' b a x := by
  obtain ⟨h1, h2, h3, h4⟩ := h
  exact ⟨(hb.cell (World.block_lt_of_cell? _ _ h1)).trans h1, (hb.cell (World.block_lt_of_cell? _ _ h2)).trans h2, (hb.cell (World.block_lt_of_cell? _ _ h3)).trans h3, (hb.cell (World.block_lt_of_cell? _ _ h4)).trans h4⟩
def RowH2 (w W : World) (b a1 a2 : Nat) (x y : S75) : Prop := W.cell? ⟨b, a1, none⟩ = some (.string x.f0) ∧ W.cell? ⟨b, a1 + 1, none⟩ = some (.int .u64 x.f1.f0) ∧ W.cell? ⟨b, a1 + 2, none⟩ = some (.int .u64 x.f1.f1) ∧ W.cell? ⟨b, a1 + 3, none⟩ = some (.bool x.f2) ∧ W.cell? ⟨b, a2, none⟩ = some (.string y.f0) ∧ W.cell? ⟨b, a2 + 1, none⟩ = some (.int .u64 y.f1.f0) ∧ W.cell? ⟨b, a2 + 2, none⟩ = some (.int .u64 y.f1.f1) ∧ W.cell? ⟨b, a2 + 3, none⟩ = some (.bool y.f2) ∧ Below w.heap.size w W
theorem RowH2.keep {w W w' : World} {b a1 a2 : Nat} {x y : S75} (h : RowH2 w W b a1 a2 x y) (hb : Below W.heap.size W w') : RowH2 w w' b a1 a2 x y := by
  obtain ⟨h1, h2, h3, h4, h5, h6, h7, h8, h9⟩ := h
  obtain ⟨g1, g2, g3, g4⟩ := RowH.keep (x := x) ⟨h1, h2, h3, h4⟩ hb
  obtain ⟨g5, g6, g7, g8⟩ := RowH.keep (x := y) ⟨h5, h6, h7, h8⟩ hb
  exact ⟨g1, g2, g3, g4, g5, g6, g7, g8, h9.trans (hb.mono h9.size)⟩
theorem RightL.key {l : List S75} (h : RightL l) {i j : Nat} (hi : i < l.length) (hj : j < l.length) (hne : i ≠ j) (he : (l[i]!).f1 = (l[j]!).f1) : ¬ (l[i]!).f0.toList = (l[j]!).f0.toList := fun hk => by
  have := (List.getElem_inj (h₀ := by simpa using hi) (h₁ := by simpa using hj) h.nd).1 (by
    rw [List.getElem_map, List.getElem_map]
    rw [getElem!_pos l i hi, getElem!_pos l j hj] at he hk
    rw [he, hk])
  exact hne this
set_option maxHeartbeats 600000 in
set_option maxRecDepth 100000 in
theorem right12_calls (A : Option Addr) (c : Nat) (l : List S75) (w : World) (hr : Kd.C k75 w A l.length l) (hc : l.length ≤ c) (hR : RightL l) :
    Calls Try.prog 32 #[.slice A l.length c] w fun e w' => e = .returned (.bool true) ∧ Below w.heap.size w w' := by
  have hn : l.length ≤ 9223372036854775807 := hr.2.1
  have HR := qza.mk hr
  have HRL := qza.mk hR
  clear hr hR
  go_enter Try.func32, Try.ntmps32
  go_wp2
  go_loopg [3] l.length (fun gg s3 wv => ∃ kk : Nat, kk ≤ l.length ∧ l.length - kk ≤ gg ∧ s3 = .int .i64 kk ∧ qza (Below w.heap.size w wv))
  case atStart => exact ⟨0, Nat.zero_le _, by omega, rfl, ⟨Below.refl _ _⟩⟩
  case round =>
    obtain ⟨kk, hkk, hgk, rfl, HBv⟩ := hrel
    by_cases hlt : kk < l.length
    · have hltz : (kk : Int) < (l.length : Int) := by omega
      have hkz : (0 : Int) ≤ (kk : Int) := by omega
      go_wp2
      go_loopg [4] l.length (fun gg s4 wv => ∃ jj : Nat, jj ≤ l.length ∧ l.length - jj ≤ gg ∧ s4 = .int .i64 jj ∧ qza (Below w.heap.size w wv))
      case atStart => exact ⟨0, Nat.zero_le _, by omega, rfl, HBv⟩
      case round =>
        obtain ⟨jj, hjj, hgj, rfl, HBu⟩ := hrel
        by_cases hlt2 : jj < l.length
        · have hltz2 : (jj : Int) < (l.length : Int) := by omega
          have hjz : (0 : Int) ≤ (jj : Int) := by omega
          obtain ⟨lb, lo, hA, x0, x1, x2, x3⟩ := holdCells (Kd.C_below HR.out HBu.out) jj hlt2
          obtain ⟨lb', lo', hA', y0, y1, y2, y3⟩ := holdCells (Kd.C_below HR.out HBu.out) kk hlt
          subst hA
          cases hA'
          have HIN := qza.mk (rinWay_val l[jj]! (l[kk]!).f1 (l[kk]!).f0 (l[kk]!).f2)
          have hway : inWayB l[jj]! (l[kk]!).f1 (l[kk]!).f0 (l[kk]!).f2 = false := by
            refine HRL.out.way _ ?_ _ ?_ <;> (rw [getElem!_pos l _ (by assumption)]; exact List.getElem_mem _)
          rw [hway] at HIN
          have HKY := qza.mk (fun h => HRL.out.key hlt hlt2 h)
          generalize l[jj]! = x at *
          generalize l[kk]! = y at *
          obtain ⟨xk, ⟨xa, xi⟩, xw⟩ := x
          obtain ⟨yk, ⟨ya, yi⟩, yw⟩ := y
          dsimp only at *
          clear hway
          have hS0 : RowH2 wr wr lb (lo + jj * 4) (lo + kk * 4) ⟨xk, ⟨xa, xi⟩, xw⟩ ⟨yk, ⟨ya, yi⟩, yw⟩ := ⟨x0, x1, x2, x3, y0, y1, y2, y3, Below.refl _ _⟩
          unfold RowH2 at hS0
          go_wp2
          go_region_held3 (fun w' => w'.cell? ⟨lb, lo + jj * 4, none⟩ = some (.string xk) ∧ w'.cell? ⟨lb, lo + jj * 4 + 1, none⟩ = some (.int .u64 xa) ∧ w'.cell? ⟨lb, lo + jj * 4 + 2, none⟩ = some (.int .u64 xi) ∧ w'.cell? ⟨lb, lo + jj * 4 + 3, none⟩ = some (.bool xw) ∧ w'.cell? ⟨lb, lo + kk * 4, none⟩ = some (.string yk) ∧ w'.cell? ⟨lb, lo + kk * 4 + 1, none⟩ = some (.int .u64 ya) ∧ w'.cell? ⟨lb, lo + kk * 4 + 2, none⟩ = some (.int .u64 yi) ∧ w'.cell? ⟨lb, lo + kk * 4 + 3, none⟩ = some (.bool yw) ∧ Below wr.heap.size wr w') (first | exact RowH2.keep (x := ⟨xk, ⟨xa, xi⟩, xw⟩) (y := ⟨yk, ⟨ya, yi⟩, yw⟩) (by assumption) (by assumption) | exact RowH2.keep (x := ⟨xk, ⟨xa, xi⟩, xw⟩) (y := ⟨yk, ⟨ya, yi⟩, yw⟩) (by assumption) ((Below.refl _ _).drew)) ((go_at_call 71; with_reducible refine (ferruleref12_inWay.calls _ _ _ _ _ _ _ _ _ _ HIN.out).mono ?_; rintro e w' ⟨rfl, hb⟩))
          have hK9 := RowH2.keep (x := ⟨xk, ⟨xa, xi⟩, xw⟩) (y := ⟨yk, ⟨ya, yi⟩, yw⟩) (RowH2.keep (x := ⟨xk, ⟨xa, xi⟩, xw⟩) (y := ⟨yk, ⟨ya, yi⟩, yw⟩) hS0 ((Below.refl _ _).drew)) hb
          clear hS0 x0 x1 x2 x3 y0 y1 y2 y3 HIN
          obtain ⟨x0, x1, x2, x3, y0, y1, y2, y3, hB9⟩ := hK9
          have HB9 := qza.mk (HBu.out.trans (hB9.mono HBu.out.size))
          clear hb hB9
          by_cases hij : kk = jj
          · subst hij
            go_wp2
            go_quiet (fail)
            go_wp2
            go_roundg (l.length - (kk + 1))
            case measure => omega
            case rel => exact ⟨kk + 1, by omega, by omega, by go_num, ⟨qz0 HB9.out _⟩⟩
          · have hijz : ¬ (kk : Int) = (jj : Int) := by omega
            have hijb : ((kk : Int) != (jj : Int)) = true := bne_iff_ne.2 hijz
            by_cases ha : ya = xa
            · subst ha
              by_cases hi : yi = xi
              · subst hi
                have hky := HKY.out hij rfl
                have hky2 : ¬ yk = xk := fun e => hky (by rw [e])
                have hky3 : (yk.toList == xk.toList) = false := beq_eq_false_iff_ne.2 hky
                clear HR HRL HBv
                go_wp2
                go_quiet (fail)
                go_wp2
                go_roundg (l.length - (jj + 1))
                case measure => omega
                case rel => exact ⟨jj + 1, by omega, by omega, by go_num, ⟨qz0 HB9.out _⟩⟩
              · go_wp2
                go_quiet (fail)
                go_wp2
                go_roundg (l.length - (jj + 1))
                case measure => omega
                case rel => exact ⟨jj + 1, by omega, by omega, by go_num, ⟨qz0 HB9.out _⟩⟩
            · go_wp2
              go_quiet (fail)
              go_wp2
              go_roundg (l.length - (jj + 1))
              case measure => omega
              case rel => exact ⟨jj + 1, by omega, by omega, by go_num, ⟨qz0 HB9.out _⟩⟩
        · have hltz2 : ¬ (jj : Int) < (l.length : Int) := by omega
          go_wp2
          go_roundg (l.length - (kk + 1))
          case measure => omega
          case rel => exact ⟨kk + 1, by omega, by omega, by go_num, HBu⟩
    · have hltz : ¬ (kk : Int) < (l.length : Int) := by omega
      go_wp2
      go_ret
      exact ⟨rfl, HBv.out⟩
end Go.Proofs.Ytmcgcdpiceikeaa.PAll
end
