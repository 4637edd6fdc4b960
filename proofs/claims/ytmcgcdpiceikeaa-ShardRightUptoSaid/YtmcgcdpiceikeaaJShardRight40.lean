/- Joined texts of the claim ShardRight (part 40): contracts of functions and plain laws. -/
import Derived.Test.YtmcgcdpiceikeaaJShardRight39
section
/- Plain laws of shards: a right shard, and what keeps it so. -/
namespace Go.Proofs.Ytmcgcdpiceikeaa.PAll
open Go.RowKit Go.Proofs.YtmcgcdpiceikeaaW.PrintWords Go.Proofs.YtmcgcdpiceikeaaW.PrintMore Go.Proofs.Ytmcgcdpiceikeaa
set_option linter.unusedVariables false
set_option linter.unusedSimpArgs false
structure InvS (s : Shd) : Prop where
  rows : rightR s.rows = true
  locks : RightL s.holds
  n : s.opens.length + s.dones.length ≤ 64
  keys : keysV s.rows s.opens [] ≤ 32
  uniq : (s.opens.map (fun x => x.f0)).Nodup
  dun : (s.dones.map (fun x => x.f0)).Nodup
  apart : ∀ x ∈ s.opens, ∀ d ∈ s.dones, x.f0 ≠ d.f0
  wf : ∀ x ∈ s.opens, (x.f1 = true → x.f2 = false) ∧ (x.f1 = false → x.f3 = []) ∧ fitsV x.f3 = 0 ∧ ∀ p ∈ x.f3, hasV s.holds x.f0 p.f0 true = true
  held : ∀ h ∈ s.holds, ∃ x ∈ s.opens, x.f0 = h.f1 ∧ x.f2 = false
  h48 : s.holds.length ≤ 48
  okh : ∀ x ∈ s.holds, okTx x.f1
  oko : ∀ x ∈ s.opens, okTx x.f0
  ver0 : 0 ≤ s.ver
  verd : s.ver ≤ s.dones.length
theorem openCount_bound {os : List S48} (h : ∀ x ∈ os, fitsV x.f3 = 0) : openCount os ≤ os.length * 8 := by
  unfold openCount
  induction os with
  | nil => simp
  | cons x r ih =>
    rw [List.map_cons, List.sum_cons, List.length_cons]
    have h1 := (fits_sizes (h x (List.mem_cons_self ..))).1
    have h2 := ih (fun y hy => h y (List.mem_cons_of_mem _ hy))
    omega
theorem InvS.ok {s : Shd} (h : InvS s) : ShdOk s := by
  obtain ⟨r1, r2, _⟩ := (rightR_iff _).1 h.rows
  have hn := h.n
  have h48 := h.h48
  have hc := openCount_bound (fun x hx => (h.wf x hx).2.2.1)
  refine ⟨⟨by omega, by omega, h.okh, h.oko⟩, ⟨by unfold maxLen; omega, fun r hr => ?_, fun x hx p hp => ?_⟩, by omega⟩
  · have := (r2 r hr).2.1
    unfold maxLen
    omega
  · have := ((fits_sizes (h.wf x hx).2.2.1).2 p hp).2.1
    unfold maxLen
    omega
theorem InvS.empty : InvS ⟨[], [], [], [], 0⟩ :=
  ⟨by decide, ⟨by simp, fun x hx => by cases hx⟩, by simp, by simp [keysV, rowKeys, openKeys, addPuts], by simp, by simp, (fun x hx => by cases hx), (fun x hx => by cases hx), (fun x hx => by cases hx), by simp, (fun x hx => by cases hx), (fun x hx => by cases hx), by simp, by simp⟩
theorem wound_f0 (rw_ : List S30) (x : S48) : (woundV rw_ x).f0 = x.f0 := by unfold woundV; split <;> rfl
theorem wound_f1 (rw_ : List S30) (x : S48) : (woundV rw_ x).f1 = x.f1 := by unfold woundV; split <;> rfl
theorem wound_f3 (rw_ : List S30) (x : S48) : (woundV rw_ x).f3 = x.f3 := by unfold woundV; split <;> rfl
theorem wound_not {rw_ : List S30} {x : S48} (h : x.f0 ∉ rw_) : woundV rw_ x = x := by unfold woundV; rw [hasTx_not.2 h]; rfl
theorem firmV_mem {os : List S48} {t : S30} : t ∈ firmV os ↔ ∃ x ∈ os, x.f1 = true ∧ x.f0 = t := by
  unfold firmV
  rw [List.mem_map]
  constructor
  · rintro ⟨x, hx, e⟩
    rw [List.mem_filter] at hx
    exact ⟨x, hx.1, hx.2, e⟩
  · rintro ⟨x, hx, h1, e⟩
    exact ⟨x, List.mem_filter.2 ⟨hx, h1⟩, e⟩
theorem known_iff {os : List S48} {t : S30} : 0 ≤ findI (isOpenT t) os ↔ ∃ x ∈ os, x.f0 = t := by
  constructor
  · intro h
    obtain ⟨i, hi, hf⟩ := findI_range0 _ _ h
    refine ⟨os[i]!, by rw [getElem!_pos os i hi]; exact List.getElem_mem hi, ?_⟩
    exact same_iff.1 (findI_bang hi hf)
  · rintro ⟨x, hx, e⟩
    exact findI_any hx (same_iff.2 e)
theorem over_iff {ds : List S68} {t : S30} : 0 ≤ findI (isDoneT t) ds ↔ ∃ x ∈ ds, x.f0 = t := by
  constructor
  · intro h
    obtain ⟨i, hi, hf⟩ := findI_range0 _ _ h
    refine ⟨ds[i]!, by rw [getElem!_pos ds i hi]; exact List.getElem_mem hi, ?_⟩
    exact same_iff.1 (findI_bang hi hf)
  · rintro ⟨x, hx, e⟩
    exact findI_any hx (same_iff.2 e)
theorem bang_mem {α : Type} [Inhabited α] {l : List α} {i : Nat} (h : i < l.length) : l[i]! ∈ l := by rw [getElem!_pos l i h]; exact List.getElem_mem h
/-- What asking comes to where the locks give. -/
def asked (s : Shd) (t : S30) (rh : List S75) (rw_ : List S30) : Shd := ⟨s.rows, rh, s.opens.map (woundV rw_) ++ (if findI (isOpenT t) s.opens < 0 then [⟨t, false, false, []⟩] else []), s.dones, s.ver⟩
theorem asked_mem {s : Shd} {t : S30} {rh : List S75} {rw_ : List S30} {x : S48} : x ∈ (asked s t rh rw_).opens ↔ (∃ y ∈ s.opens, woundV rw_ y = x) ∨ (findI (isOpenT t) s.opens < 0 ∧ x = ⟨t, false, false, []⟩) := by
  unfold asked
  rw [List.mem_append, List.mem_map]
  split
  · rename_i h; simp [h]
  · rename_i h; simp [h]
theorem asks_cases (s : Shd) (kind : Int) (t : S30) (key : ByteArray) : ((asksV s kind t key).1 = s ∧ (asksV s kind t key).2.err ≠ 0) ∨
    (findI (isDoneT t) s.dones < 0 ∧ 1 ≤ key.size ∧ key.size ≤ 16 ∧ (0 ≤ findI (isOpenT t) s.opens → (s.opens[(findI (isOpenT t) s.opens).toNat]!).f2 = false ∧ (s.opens[(findI (isOpenT t) s.opens).toNat]!).f1 = false) ∧ (findI (isOpenT t) s.opens < 0 → s.opens.length + s.dones.length < 64) ∧
      ∃ rh rw_, askV s.holds t key (kind == 2) (firmV s.opens) = (rh, rw_, 0) ∧ asksV s kind t key = (asked s t rh rw_, ⟨0, (getV s.rows key).2.1, if (getV s.rows key).2.2.2 = true then (getV s.rows key).2.2.1 else s.ver, (getV s.rows key).2.2.2, false⟩)) := by
  unfold asksV asked errA
  split
  · left; exact ⟨rfl, by dsimp only; decide⟩
  rename_i hd
  split
  · left; exact ⟨rfl, by dsimp only; decide⟩
  rename_i hk
  split
  · left; exact ⟨rfl, by dsimp only; decide⟩
  rename_i h2
  split
  · left; exact ⟨rfl, by dsimp only; decide⟩
  rename_i h1
  split
  · left; exact ⟨rfl, by dsimp only; decide⟩
  rename_i h6
  split
  · rename_i he; left; exact ⟨rfl, he⟩
  rename_i he
  right
  have he : (askV s.holds t key (kind == 2) (firmV s.opens)).2.2 = 0 := by simpa using he
  refine ⟨by omega, by omega, by omega, fun h => ⟨Bool.eq_false_iff.2 (fun e => h2 ⟨h, e⟩), Bool.eq_false_iff.2 (fun e => h1 ⟨h, e⟩)⟩, fun h => by omega, _, _, ?_, rfl⟩
  rw [← he]
theorem InvS.asked {s : Shd} (h : InvS s) {t : S30} {key : ByteArray} {wr : Bool} {rh : List S75} {rw_ : List S30} (hok : okTx t) (hd : findI (isDoneT t) s.dones < 0) (hk2 : 0 ≤ findI (isOpenT t) s.opens → (s.opens[(findI (isOpenT t) s.opens).toNat]!).f2 = false) (hn : findI (isOpenT t) s.opens < 0 → s.opens.length + s.dones.length < 64)
    (ha : askV s.holds t key wr (firmV s.opens) = (rh, rw_, 0)) : InvS (PAll.asked s t rh rw_) := by
  have g := askV_good s.holds t key wr (firmV s.opens) h.locks h.h48 ha
  have hfirm : ∀ x ∈ s.opens, x.f1 = true → x.f0 ∉ rw_ := fun x hx h1 hm => g.firm _ hm (firmV_mem.2 ⟨x, hx, h1, rfl⟩)
  have hmap0 : (s.opens.map (woundV rw_)).map (fun x => x.f0) = s.opens.map (fun x => x.f0) := by
    rw [List.map_map]
    exact List.map_congr_left (fun x _ => wound_f0 rw_ x)
  have hnew : findI (isOpenT t) s.opens < 0 → ∀ x ∈ s.opens, x.f0 ≠ t := fun hf x hx e => by have := known_iff.2 ⟨x, hx, e⟩; omega
  have hdn : ∀ d ∈ s.dones, t ≠ d.f0 := fun d hd' e => by have := over_iff.2 ⟨d, hd', e.symm⟩; omega
  refine ⟨h.rows, g.right, ?_, ?_, ?_, h.dun, ?_, ?_, ?_, g.len, ?_, ?_, h.ver0, h.verd⟩
  · have := h.n
    unfold PAll.asked
    dsimp only
    rw [List.length_append, List.length_map]
    split
    · rename_i hf; have := hn hf; simp; omega
    · simp; omega
  · refine Nat.le_trans (keysV_le (fun k hk => ?_)) h.keys
    rcases hk with hk | ⟨x, hx, h1, p, hp, h2, h3⟩ | ⟨p, hp, _⟩
    · exact .inl hk
    · rcases asked_mem.1 hx with ⟨y, hy, rfl⟩ | ⟨_, rfl⟩
      · exact .inr (.inl ⟨y, hy, by rw [← h1, wound_f1], p, by rw [← wound_f3 rw_ y]; exact hp, h2, h3⟩)
      · cases hp
    · cases hp
  · unfold PAll.asked
    dsimp only
    rw [List.map_append, hmap0, List.nodup_append]
    refine ⟨h.uniq, by split <;> simp, fun a ha b hb e => ?_⟩
    obtain ⟨x, hx, rfl⟩ := List.mem_map.1 ha
    split at hb
    · rename_i hf
      simp at hb
      exact hnew hf x hx (e.trans hb)
    · simp at hb
  · intro x hx d hd'
    rcases asked_mem.1 hx with ⟨y, hy, rfl⟩ | ⟨_, rfl⟩
    · rw [wound_f0]; exact h.apart y hy d hd'
    · exact hdn d hd'
  · intro x hx
    rcases asked_mem.1 hx with ⟨y, hy, rfl⟩ | ⟨_, rfl⟩
    · obtain ⟨w1, w2, w3, w4⟩ := h.wf y hy
      refine ⟨fun h1 => ?_, fun h1 => ?_, by rw [wound_f3]; exact w3, fun p hp => ?_⟩
      · rw [wound_f1] at h1
        rw [wound_not (hfirm y hy h1)]
        exact w1 h1
      · rw [wound_f1] at h1
        rw [wound_f3]
        exact w2 h1
      · rw [wound_f3] at hp
        rw [wound_f0]
        have h1 : y.f1 = true := by
          cases hf : y.f1 with
          | true => rfl
          | false => rw [w2 hf] at hp; cases hp
        obtain ⟨z, hz, z1, z2, z3⟩ := hasV_iff.1 (w4 p hp)
        obtain ⟨u, hu, u1, u2, u3⟩ := g.keep z hz (by rw [z1]; exact hfirm y hy h1)
        exact hasV_iff.2 ⟨u, hu, u1.trans z1, by rw [u2]; exact z2, fun hw => u3 (z3 hw)⟩
    · exact ⟨(fun e => by cases e), fun _ => rfl, (by show fitsV [] = 0; decide), fun p hp => by cases hp⟩
  · intro x hx
    rcases g.from_ x hx with h1 | ⟨h1, h2⟩
    · rcases Int.lt_or_le (findI (isOpenT t) s.opens) 0 with hf | hf
      · exact ⟨⟨t, false, false, []⟩, asked_mem.2 (.inr ⟨hf, rfl⟩), h1.symm, rfl⟩
      · obtain ⟨i, hi, he⟩ := findI_range0 _ _ hf
        have e0 : (s.opens[i]!).f0 = t := same_iff.1 (findI_bang (p := isOpenT t) hi he)
        have e2 := hk2 hf
        rw [he, Int.toNat_natCast] at e2
        exact ⟨_, asked_mem.2 (.inl ⟨s.opens[i]!, bang_mem hi, wound_not (by rw [e0]; exact g.me)⟩), by rw [e0, h1], e2⟩
    · obtain ⟨y, hy, y1, y2⟩ := h.held x h1
      exact ⟨_, asked_mem.2 (.inl ⟨y, hy, wound_not (by rw [y1]; exact h2)⟩), y1, y2⟩
  · intro x hx
    rcases g.from_ x hx with h1 | ⟨h1, h2⟩
    · rw [h1]; exact hok
    · exact h.okh x h1
  · intro x hx
    rcases asked_mem.1 hx with ⟨y, hy, rfl⟩ | ⟨_, rfl⟩
    · rw [wound_f0]; exact h.oko y hy
    · exact hok
end Go.Proofs.Ytmcgcdpiceikeaa.PAll
end
section
/- Plain laws of shards: what is prepared and what is finished keeps a shard right. -/
namespace Go.Proofs.Ytmcgcdpiceikeaa.PAll
open Go.RowKit Go.Proofs.YtmcgcdpiceikeaaW.PrintWords Go.Proofs.YtmcgcdpiceikeaaW.PrintMore Go.Proofs.Ytmcgcdpiceikeaa
set_option linter.unusedVariables false
set_option linter.unusedSimpArgs false
def prepared (s : Shd) (i : Nat) (ps : List S54) : Shd := ⟨s.rows, s.holds, s.opens.set i ⟨(s.opens[i]!).f0, true, false, ps⟩, s.dones, s.ver⟩
theorem preps_cases (s : Shd) (t : S30) (ps : List S54) : ((prepsV s t ps).1 = s) ∨
    (findI (isDoneT t) s.dones < 0 ∧ ∃ i, i < s.opens.length ∧ findI (isOpenT t) s.opens = (i : Int) ∧ (s.opens[i]!).f2 = false ∧ (s.opens[i]!).f1 = false ∧ fitsV ps = 0 ∧ lacksV s.holds t ps = false ∧ keysV s.rows s.opens ps ≤ 32 ∧ prepsV s t ps = (prepared s i ps, errA 0)) := by
  unfold prepsV prepared
  split
  · left; rfl
  rename_i hd
  split
  · left; rfl
  rename_i ho
  obtain ⟨i, hi, hf⟩ := findI_range0 _ _ (show 0 ≤ findI (isOpenT t) s.opens by omega)
  rw [hf, Int.toNat_natCast]
  split
  · left; rfl
  rename_i h2
  split
  · left; split <;> rfl
  rename_i h1
  split
  · left; rfl
  rename_i h3
  split
  · left; rfl
  rename_i h4
  split
  · left; rfl
  rename_i h5
  right
  exact ⟨by omega, i, hi, rfl, Bool.eq_false_iff.2 h2, Bool.eq_false_iff.2 h1, by simpa using h3, Bool.eq_false_iff.2 h4, by omega, rfl⟩
theorem map_set_same {α β : Type} [Inhabited α] {f : α → β} {l : List α} {i : Nat} {v : α} (hi : i < l.length) (h : f v = f (l[i]!)) : (l.set i v).map f = l.map f := by
  rw [List.map_set]
  have : f v = (l.map f)[i]'(by rw [List.length_map]; exact hi) := by rw [List.getElem_map, h, getElem!_pos l i hi]
  rw [this]
  exact List.set_getElem_self _
theorem set_find {α : Type} [Inhabited α] {l : List α} {i : Nat} {v : α} (hi : i < l.length) {y : α} (hy : y ∈ l) : y ∈ l.set i v ∨ (y = l[i]! ∧ v ∈ l.set i v) := by
  obtain ⟨j, hj, rfl⟩ := List.mem_iff_getElem.1 hy
  by_cases e : i = j
  · subst e
    exact .inr ⟨by rw [getElem!_pos l i hi], List.mem_iff_getElem.2 ⟨i, by rw [List.length_set]; exact hi, by rw [List.getElem_set_self]⟩⟩
  · exact .inl (List.mem_iff_getElem.2 ⟨j, by rw [List.length_set]; exact hj, by rw [List.getElem_set_ne e]⟩)
theorem InvS.prepared {s : Shd} (h : InvS s) {t : S30} {ps : List S54} {i : Nat} (hi : i < s.opens.length) (hf : findI (isOpenT t) s.opens = (i : Int)) (h2 : (s.opens[i]!).f2 = false) (h1 : (s.opens[i]!).f1 = false) (hfit : fitsV ps = 0) (hlk : lacksV s.holds t ps = false) (hk : keysV s.rows s.opens ps ≤ 32) : InvS (PAll.prepared s i ps) := by
  have e0 : (s.opens[i]!).f0 = t := same_iff.1 (findI_bang (p := isOpenT t) hi hf)
  have hm : ∀ x ∈ (PAll.prepared s i ps).opens, x ∈ s.opens ∨ x = ⟨(s.opens[i]!).f0, true, false, ps⟩ := fun x hx => List.mem_or_eq_of_mem_set hx
  have hi0 := bang_mem hi
  refine ⟨h.rows, h.locks, by unfold PAll.prepared; dsimp only; rw [List.length_set]; exact h.n, ?_, ?_, h.dun, ?_, ?_, ?_, h.h48, h.okh, ?_, h.ver0, h.verd⟩
  · refine Nat.le_trans (keysV_le (fun k hk' => ?_)) hk
    rcases hk' with hk' | ⟨x, hx, x1, p, hp, p2, p3⟩ | ⟨p, hp, _⟩
    · exact .inl hk'
    · rcases hm x hx with hx | rfl
      · exact .inr (.inl ⟨x, hx, x1, p, hp, p2, p3⟩)
      · exact .inr (.inr ⟨p, hp, p2, p3⟩)
    · cases hp
  · unfold PAll.prepared
    dsimp only
    rw [map_set_same (f := fun x : S48 => x.f0) (v := ⟨(s.opens[i]!).f0, true, false, ps⟩) hi rfl]
    exact h.uniq
  · intro x hx d hd
    rcases hm x hx with hx | rfl
    · exact h.apart x hx d hd
    · exact h.apart (s.opens[i]!) hi0 d hd
  · intro x hx
    rcases hm x hx with hx | rfl
    · exact h.wf x hx
    · refine ⟨fun _ => rfl, (fun e => by cases e), hfit, fun p hp => ?_⟩
      show hasV s.holds (s.opens[i]!).f0 p.f0 true = true
      rw [e0]
      unfold lacksV at hlk
      have := List.any_eq_false.1 hlk p hp
      simpa using this
  · intro x hx
    obtain ⟨y, hy, y1, y2⟩ := h.held x hx
    rcases set_find (v := ⟨(s.opens[i]!).f0, true, false, ps⟩) hi hy with hy' | ⟨rfl, hv⟩
    · exact ⟨y, hy', y1, y2⟩
    · exact ⟨_, hv, y1, rfl⟩
  · intro x hx
    rcases hm x hx with hx | rfl
    · exact h.oko x hx
    · exact h.oko (s.opens[i]!) hi0
theorem look_some {l : List S50} {r : S50} (h : r ∈ l) : lookR l r.f0 ≠ none := by
  unfold lookR
  intro e
  have := List.find?_eq_none.1 e r h
  exact this (keyIs_eq.2 rfl)
theorem look_mem {l : List S50} {k : ByteArray} (h : lookR l k ≠ none) : ∃ r ∈ l, r.f0 = k := by
  unfold lookR at h
  cases e : l.find? (keyIs k) with
  | none => exact absurd e h
  | some r => exact ⟨r, List.mem_of_find?_eq_some e, toList_inj (keyIs_eq.1 (List.find?_some e))⟩
theorem all_keys {rs rl : List S50} {ps : List S54} {ver : Int} (hr : rightR rs = true) (hv : ver ≤ 4611686018427387903) (ha : allV rs ps ver = (rl, 0)) : rightR rl = true ∧ ∀ r ∈ rl, (∃ q ∈ rs, q.f0 = r.f0) ∨ ∃ p ∈ ps, p.f2 = false ∧ p.f0 = r.f0 := by
  obtain ⟨b1, b2, b3, _⟩ := allV_right rs ps ver hr hv (by rw [ha])
  rw [ha] at b1 b2 b3
  refine ⟨b1, fun r hr' => ?_⟩
  have hne := look_some hr'
  by_cases hk : ∃ p ∈ ps, p.f0.toList = r.f0.toList
  · obtain ⟨p, hp, e⟩ := hk
    have e := toList_inj e
    have h2 := b2 p hp
    rw [e] at h2
    cases hg : p.f2 with
    | true => rw [hg] at h2; exact absurd h2 hne
    | false => exact .inr ⟨p, hp, hg, e⟩
  · have h3 := b3 r.f0 (fun p hp e => hk ⟨p, hp, e⟩)
    dsimp only at h3 hne
    rw [h3] at hne
    exact .inl (look_mem hne)
theorem fins_cases (s : Shd) (t : S30) (cm : Bool) : (finsV s t cm).1 = s ∨ (findI (isDoneT t) s.dones < 0 ∧ (findI (isOpenT t) s.opens < 0 → cm = false ∧ s.opens.length + s.dones.length < 64) ∧ ∃ rows ver, finsV s t cm = finS s t cm rows ver ∧
    ((rows = s.rows ∧ ver = s.ver) ∨ ∃ i, i < s.opens.length ∧ findI (isOpenT t) s.opens = (i : Int) ∧ cm = true ∧ (s.opens[i]!).f1 = true ∧ (s.opens[i]!).f3 ≠ [] ∧ ver = IntKind.u64.wrap (s.ver + 1) ∧ allV s.rows (s.opens[i]!).f3 ver = (rows, 0))) := by
  unfold finsV
  split
  · left; rfl
  rename_i hd
  split
  · rename_i ho
    split
    · left; rfl
    · rename_i hc
      split
      · left; rfl
      · rename_i h6
        right
        exact ⟨by omega, fun _ => ⟨by simpa using hc, by omega⟩, _, _, rfl, .inl ⟨rfl, rfl⟩⟩
  rename_i ho
  obtain ⟨i, hi, hf⟩ := findI_range0 _ _ (show 0 ≤ findI (isOpenT t) s.opens by omega)
  rw [hf, Int.toNat_natCast]
  split
  · left; rfl
  rename_i h1
  split
  · rename_i h3
    split
    · left; rfl
    · rename_i he
      right
      refine ⟨by omega, fun h => by omega, _, _, rfl, .inr ⟨i, hi, rfl, h3.1, ?_, h3.2, rfl, ?_⟩⟩
      · cases hq : (s.opens[i]!).f1 with
        | true => rfl
        | false => exact absurd ⟨h3.1, hq⟩ h1
      · have he : (allV s.rows (s.opens[i]!).f3 (IntKind.u64.wrap (s.ver + 1))).2 = 0 := by simpa using he
        rw [← he]
  · right
    exact ⟨by omega, fun h => by omega, _, _, rfl, .inl ⟨rfl, rfl⟩⟩
theorem InvS.finished {s : Shd} (h : InvS s) {t : S30} {cm : Bool} {rows : List S50} {ver : Int} (hd : findI (isDoneT t) s.dones < 0) (hn : findI (isOpenT t) s.opens < 0 → s.opens.length + s.dones.length < 64) (hr : rightR rows = true) (hk : ∀ k, inKeys rows s.opens [] k → inKeys s.rows s.opens [] k) (hv0 : 0 ≤ ver) (hv : ver ≤ s.dones.length + 1) : InvS (finS s t cm rows ver).1 := by
  have hop : ∀ x ∈ s.opens.filter (fun x => !sameTx x.f0 t), x ∈ s.opens ∧ x.f0 ≠ t := fun x hx => by
    rw [List.mem_filter, Bool.not_eq_true'] at hx
    exact ⟨hx.1, same_false.1 hx.2⟩
  have hop2 : ∀ x ∈ s.opens, x.f0 ≠ t → x ∈ s.opens.filter (fun x => !sameTx x.f0 t) := fun x hx he => List.mem_filter.2 ⟨hx, by rw [same_false.2 he]; rfl⟩
  have hho : ∀ x ∈ dropV s.holds t, x ∈ s.holds ∧ x.f1 ≠ t := fun x hx => by
    unfold dropV at hx
    rw [List.mem_filter, Bool.not_eq_true'] at hx
    exact ⟨hx.1, same_false.1 hx.2⟩
  have hho2 : ∀ x ∈ s.holds, x.f1 ≠ t → x ∈ dropV s.holds t := fun x hx he => List.mem_filter.2 ⟨hx, by rw [same_false.2 he]; rfl⟩
  have hdn : ∀ d ∈ s.dones, d.f0 ≠ t := fun d hd' e => by have := over_iff.2 ⟨d, hd', e⟩; omega
  unfold finS
  refine ⟨hr, h.locks.filter _, ?_, ?_, ?_, ?_, ?_, ?_, ?_, Nat.le_trans (List.length_filter_le _ _) h.h48, fun x hx => h.okh x (hho x hx).1, fun x hx => h.oko x (hop x hx).1, hv0, by simp; omega⟩
  · dsimp only
    rw [List.length_append, List.length_singleton]
    have hle := List.length_filter_le (fun x => !sameTx x.f0 t) s.opens
    have h0 := h.n
    rcases Int.lt_or_le (findI (isOpenT t) s.opens) 0 with hf | hf
    · have := hn hf; omega
    · obtain ⟨x, hx, e⟩ := known_iff.1 hf
      have : (s.opens.filter (fun x => !sameTx x.f0 t)).length < s.opens.length := by
        refine Nat.lt_of_le_of_ne hle (fun e2 => ?_)
        have := List.length_filter_eq_length_iff.1 e2 x hx
        rw [e, same_iff.2 rfl] at this
        cases this
      omega
  · refine Nat.le_trans (keysV_le (fun k hk' => hk k ?_)) h.keys
    rcases hk' with hk' | ⟨x, hx, x1, x2⟩ | hk'
    · exact .inl hk'
    · exact .inr (.inl ⟨x, (hop x hx).1, x1, x2⟩)
    · exact .inr (.inr hk')
  · exact h.uniq.sublist ((List.filter_sublist).map _)
  · dsimp only
    rw [List.map_append, List.nodup_append]
    refine ⟨h.dun, by simp, fun a ha b hb e => ?_⟩
    obtain ⟨d, hd', rfl⟩ := List.mem_map.1 ha
    simp at hb
    exact hdn d hd' (e.trans hb)
  · intro x hx d hd'
    rcases List.mem_append.1 hd' with h1 | h1
    · exact h.apart x (hop x hx).1 d h1
    · rw [List.mem_singleton.1 h1]
      exact (hop x hx).2
  · intro x hx
    obtain ⟨w1, w2, w3, w4⟩ := h.wf x (hop x hx).1
    refine ⟨w1, w2, w3, fun p hp => ?_⟩
    obtain ⟨z, hz, z1, z2, z3⟩ := hasV_iff.1 (w4 p hp)
    exact hasV_iff.2 ⟨z, hho2 z hz (by rw [z1]; exact (hop x hx).2), z1, z2, z3⟩
  · intro x hx
    obtain ⟨y, hy, y1, y2⟩ := h.held x (hho x hx).1
    exact ⟨y, hop2 y hy (by rw [y1]; exact (hho x hx).2), y1, y2⟩
theorem ver_wrap {s : Shd} (h : InvS s) : IntKind.u64.wrap (s.ver + 1) = s.ver + 1 ∧ s.ver + 1 ≤ s.dones.length + 1 := by
  have h0 := h.ver0
  have h1 := h.verd
  have h2 := h.n
  rw [IntKind.wrap_u64]
  omega
/-- A right shard stays so, whatever it is ordered; its version does not fall. -/
theorem InvS.doS {s : Shd} (h : InvS s) (kind : Int) {t : S30} (hok : okTx t) (key : ByteArray) (ps : List S54) (cm : Bool) : InvS (PAll.doS s kind t key ps cm).1 ∧ s.ver ≤ (PAll.doS s kind t key ps cm).1.ver := by
  unfold PAll.doS
  split
  · rcases asks_cases s kind t key with ⟨e, _⟩ | ⟨hd, _, _, h2, hn, rh, rw_, ha, e⟩
    · rw [e]; exact ⟨h, Int.le_refl _⟩
    · rw [e]; exact ⟨h.asked hok hd (fun hf => (h2 hf).1) hn ha, Int.le_refl _⟩
  split
  · rcases preps_cases s t ps with e | ⟨_, i, hi, hf, h2, h1, hfit, hlk, hk, e⟩
    · rw [e]; exact ⟨h, Int.le_refl _⟩
    · rw [e]; exact ⟨h.prepared hi hf h2 h1 hfit hlk hk, Int.le_refl _⟩
  split
  · rcases fins_cases s t cm with e | ⟨hd, hn, rows, ver, e, hr⟩
    · rw [e]; exact ⟨h, Int.le_refl _⟩
    · rw [e]
      rcases hr with ⟨rfl, rfl⟩ | ⟨i, hi, hf, hcm, h1, h3, hver, hall⟩
      · exact ⟨h.finished hd (fun hf => (hn hf).2) h.rows (fun k hk => hk) h.ver0 (by have := h.verd; omega), Int.le_refl _⟩
      · obtain ⟨v1, v2⟩ := ver_wrap h
        have hd64 := h.n
        have h0 := h.ver0
        rw [v1] at hver
        obtain ⟨r1, r2⟩ := all_keys h.rows (by omega) hall
        refine ⟨h.finished hd (fun hf => (hn hf).2) r1 (fun k hk => ?_) (by omega) (by omega), ?_⟩
        · rcases hk with ⟨r, hr, e⟩ | hk | hk
          · rcases r2 r hr with ⟨q, hq, e2⟩ | ⟨p, hp, p2, e2⟩
            · exact .inl ⟨q, hq, e2.trans e⟩
            · exact .inr (.inl ⟨_, bang_mem hi, h1, p, hp, p2, e2.trans e⟩)
          · exact .inr (.inl hk)
          · exact .inr (.inr hk)
        · show s.ver ≤ ver
          omega
  · exact ⟨h, Int.le_refl _⟩
end Go.Proofs.Ytmcgcdpiceikeaa.PAll
end
section
/- The document's example of chapter 13, plain. -/
namespace Go.Proofs.Ytmcgcdpiceikeaa.PAll
open Go.RowKit Go.Proofs.YtmcgcdpiceikeaaW.PrintWords Go.Proofs.YtmcgcdpiceikeaaW.PrintMore Go.Proofs.Ytmcgcdpiceikeaa
set_option linter.unusedVariables false
def exT : S30 := ⟨1, 0⟩
def exP : List S54 := [⟨⟨#[97]⟩, ⟨#[49]⟩, false⟩]
def ex1 : Shd × Ans := doS ⟨[], [], [], [], 0⟩ 2 exT ⟨#[97]⟩ [] false
def ex2 : Shd × Ans := doS ex1.1 3 exT ⟨#[]⟩ exP false
def ex3 : Shd × Ans := doS ex2.1 4 exT ⟨#[]⟩ [] true
def ex4 : Shd × Ans := doS ex3.1 4 exT ⟨#[]⟩ [] false
set_option maxRecDepth 100000 in
theorem ex1_val : ex1 = (⟨[], [⟨⟨#[97]⟩, exT, true⟩], [⟨exT, false, false, []⟩], [], 0⟩, ⟨0, ⟨#[]⟩, 0, false, false⟩) := by kernel_rfl
set_option maxRecDepth 100000 in
theorem ex2_val : ex2 = (⟨[], [⟨⟨#[97]⟩, exT, true⟩], [⟨exT, true, false, exP⟩], [], 0⟩, ⟨0, ⟨#[]⟩, 0, false, false⟩) := by
  unfold ex2
  rw [ex1_val]
  kernel_rfl
set_option maxRecDepth 100000 in
theorem ex3_val : ex3 = (⟨[⟨⟨#[97]⟩, ⟨#[49]⟩, 1⟩], [], [], [⟨exT, true⟩], 1⟩, ⟨0, ⟨#[]⟩, 0, false, true⟩) := by
  unfold ex3
  rw [ex2_val]
  kernel_rfl
set_option maxRecDepth 100000 in
theorem ex4_val : ex4.2 = ⟨13, ⟨#[]⟩, 0, false, true⟩ := by
  unfold ex4
  rw [ex3_val]
  kernel_rfl
end Go.Proofs.Ytmcgcdpiceikeaa.PAll
end
section
/- A shard that lies in a box; orders that are read. -/
namespace Go.Proofs.Ytmcgcdpiceikeaa.PAll
open Go.RowKit Go.Proofs.YtmcgcdpiceikeaaW.PrintWords Go.Proofs.YtmcgcdpiceikeaaW.PrintMore Go.Proofs.Ytmcgcdpiceikeaa
set_option linter.unusedVariables false
structure S34 where
  f0 : Int
  f1 : S30
  f2 : ByteArray
  f3 : (List S54)
  f4 : Bool
  f5 : (List Int)
/-- Shard s lies in block q. -/
def ShdAt (w : World) (q : Nat) (s : Shd) : Prop := ∃ A0 c0 A1 c1 A2 c2 A3 c3, w.heap[q]? = some (.cells #[.slice A0 s.rows.length c0, .slice A1 s.holds.length c1, .slice A2 s.opens.length c2, .slice A3 s.dones.length c3, .int .u64 s.ver] 28 (0, 0)) ∧ (Kd.C k50 w A0 s.rows.length s.rows ∧ s.rows.length ≤ c0) ∧ (Kd.C k75 w A1 s.holds.length s.holds ∧ s.holds.length ≤ c1) ∧ (Kd.C k48 w A2 s.opens.length s.opens ∧ s.opens.length ≤ c2) ∧ (Kd.C k68 w A3 s.dones.length s.dones ∧ s.dones.length ≤ c3)
theorem ShdAt.lt {w : World} {q : Nat} {s : Shd} (h : ShdAt w q s) : q < w.heap.size := by
  obtain ⟨_, _, _, _, _, _, _, _, h, _⟩ := h
  exact (Array.getElem?_eq_some_iff.1 h).1
theorem ShdAt.below {w w' : World} {q : Nat} {s : Shd} (h : ShdAt w q s) (hb : Below w.heap.size w w') : ShdAt w' q s := by
  have hl := h.lt
  obtain ⟨A0, c0, A1, c1, A2, c2, A3, c3, h, ⟨a, a'⟩, ⟨b, b'⟩, ⟨c, c'⟩, ⟨d, d'⟩⟩ := h
  exact ⟨A0, c0, A1, c1, A2, c2, A3, c3, (hb.block q hl).trans h, ⟨Kd.C_below a hb, a'⟩, ⟨Kd.C_below b hb, b'⟩, ⟨Kd.C_below c hb, c'⟩, ⟨Kd.C_below d hb, d'⟩⟩
theorem ShdAt.of {w : World} {q : Nat} {s : Shd} {A0 A1 A2 A3 : Option Addr} {n0 c0 n1 c1 n2 c2 n3 c3 : Nat} (h : w.heap[q]? = some (.cells #[.slice A0 n0 c0, .slice A1 n1 c1, .slice A2 n2 c2, .slice A3 n3 c3, .int .u64 s.ver] 28 (0, 0))) (hv : ShdV w (.agg #[.slice A0 n0 c0, .slice A1 n1 c1, .slice A2 n2 c2, .slice A3 n3 c3, .int .u64 s.ver]) s) : ShdAt w q s := by
  obtain ⟨v0, v1, v2, v3, e, ⟨B0, d0, rfl, a', a⟩, ⟨B1, d1, rfl, b', b⟩, ⟨B2, d2, rfl, c', c⟩, ⟨B3, d3, rfl, d', d⟩⟩ := hv
  simp only [Value.agg.injEq, Array.mk.injEq, List.cons.injEq, Value.slice.injEq, and_true] at e
  obtain ⟨⟨rfl, rfl, rfl⟩, ⟨rfl, rfl, rfl⟩, ⟨rfl, rfl, rfl⟩, ⟨rfl, rfl, rfl⟩⟩ := e
  exact ⟨_, _, _, _, _, _, _, _, h, ⟨a, a'⟩, ⟨b, b'⟩, ⟨c, c'⟩, ⟨d, d'⟩⟩
theorem ShdAt.made {w : World} {s : Shd} {A0 A1 A2 A3 : Option Addr} {n0 c0 n1 c1 n2 c2 n3 c3 : Nat} (hv : ShdV w (.agg #[.slice A0 n0 c0, .slice A1 n1 c1, .slice A2 n2 c2, .slice A3 n3 c3, .int .u64 s.ver]) s) : ShdAt (w.alloc (.cells #[.slice A0 n0 c0, .slice A1 n1 c1, .slice A2 n2 c2, .slice A3 n3 c3, .int .u64 s.ver] 28)) w.heap.size s :=
  ShdAt.of (heap_alloc_new w _) (hv.below ((Below.refl _ _).alloc (Nat.le_refl _) _))
theorem ShdAt.put {w : World} {q : Nat} {s : Shd} {B0 B1 B2 B3 : Option Addr} {m0 d0 m1 d1 m2 d2 m3 d3 : Nat} {u : Int} {A0 A1 A2 A3 : Option Addr} {n0 c0 n1 c1 n2 c2 n3 c3 : Nat} (h : w.heap[q]? = some (.cells #[.slice B0 m0 d0, .slice B1 m1 d1, .slice B2 m2 d2, .slice B3 m3 d3, .int .u64 u] 28 (0, 0))) (hv : ShdV w (.agg #[.slice A0 n0 c0, .slice A1 n1 c1, .slice A2 n2 c2, .slice A3 n3 c3, .int .u64 s.ver]) s) :
    ShdAt (put5 w q (.slice A0 n0 c0) (.slice A1 n1 c1) (.slice A2 n2 c2) (.slice A3 n3 c3) (.int .u64 s.ver)) q s :=
  ShdAt.of (put5_at h _ _ _ _ _) (hv.grown (noRow_z h) (put5_grown w q _ _ _ _ _))
end Go.Proofs.Ytmcgcdpiceikeaa.PAll
end
