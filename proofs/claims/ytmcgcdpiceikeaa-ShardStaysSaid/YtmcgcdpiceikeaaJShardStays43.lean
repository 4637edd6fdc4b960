/- Joined texts of the claim ShardStays (part 43): contracts of functions and plain laws. -/
import Derived.Test.YtmcgcdpiceikeaaJShardStays39
import Derived.Test.YtmcgcdpiceikeaaJShardStays40
import Derived.Test.YtmcgcdpiceikeaaJShardStays41
import Derived.Test.YtmcgcdpiceikeaaJShardStays42
set_option linter.unusedVariables false
set_option linter.unusedSimpArgs false
section
namespace Go.Proofs.Ytmcgcdpiceikeaa.PAll
open Go.RowKit Go.Proofs.YtmcgcdpiceikeaaW.PrintWords Go.Proofs.YtmcgcdpiceikeaaW.PrintMore Go.Proofs.Ytmcgcdpiceikeaa
def finS (s : Shd) (t : S30) (cm : Bool) (rows : List S50) (ver : Int) : Shd × Ans := (⟨rows, dropV s.holds t, s.opens.filter (fun x => !qz34 x.f0 t), s.dones ++ [⟨t, cm⟩], ver⟩, ⟨0, ⟨#[]⟩, 0, false, cm⟩)
def finsV (s : Shd) (t : S30) (cm : Bool) : Shd × Ans :=
  if 0 ≤ findI (qz25 t) s.dones then (s, ⟨if (overV s.dones t).f1 = cm then 0 else 13, ⟨#[]⟩, 0, false, (overV s.dones t).f1⟩)
  else if findI (qz16 t) s.opens < 0 then (if cm = true then (s, errA 7) else if 64 ≤ s.opens.length + s.dones.length then (s, errA 5) else finS s t cm s.rows s.ver)
  else if cm = true ∧ (s.opens[(findI (qz16 t) s.opens).toNat]!).f1 = false then (s, errA 9)
  else if cm = true ∧ (s.opens[(findI (qz16 t) s.opens).toNat]!).f3 ≠ [] then
    (if (allV s.rows (s.opens[(findI (qz16 t) s.opens).toNat]!).f3 (IntKind.u64.wrap (s.ver + 1))).2 ≠ 0 then (s, errA (allV s.rows (s.opens[(findI (qz16 t) s.opens).toNat]!).f3 (IntKind.u64.wrap (s.ver + 1))).2)
     else finS s t cm (allV s.rows (s.opens[(findI (qz16 t) s.opens).toNat]!).f3 (IntKind.u64.wrap (s.ver + 1))).1 (IntKind.u64.wrap (s.ver + 1)))
  else finS s t cm s.rows s.ver
theorem fin_calls (kind : Int) (t : S30) (key : ByteArray) (A4 : Option Addr) (n4 c4 : Nat) (cm : Bool) (A5 : Option Addr) (n5 c5 : Nat) (A0 : Option Addr) (c0 : Nat) (A1 : Option Addr) (c1 : Nat) (A2 : Option Addr) (c2 : Nat) (A3 : Option Addr) (c3 : Nat) (rs : List S50) (hs : List S75) (os : List S48) (ds : List S68) (ver : Int) (w : World) (hr0 : Kd.C k50 w A0 rs.length rs) (hc0 : rs.length ≤ c0) (hr1 : Kd.C k75 w A1 hs.length hs) (hc1 : hs.length ≤ c1) (hr2 : Kd.C k48 w A2 os.length os) (hc2 : os.length ≤ c2) (hr3 : Kd.C k68 w A3 ds.length ds) (hc3 : ds.length ≤ c3) (hlim : ShdLim ⟨rs, hs, os, ds, ver⟩) (hrl : rs.length ≤ 2000000000000) :
    Calls Try.prog 23 #[.agg (shv A0 rs.length c0 A1 hs.length c1 A2 os.length c2 A3 ds.length c3 ver), .agg #[.int .i64 kind, .int .u64 t.f0, .int .u64 t.f1, .string key, .slice A4 n4 c4, .bool cm, .slice A5 n5 c5]] w (qz32 w (finsV ⟨rs, hs, os, ds, ver⟩ t cm)) := by
  have hl := hlim.n
  have hlh := hlim.h
  dsimp only at hl hlh
  unfold finsV finS
  dsimp only
  by_cases hd : 0 ≤ findI (qz25 t) ds
  · rw [if_pos hd]
    by_cases hcm : (overV ds t).f1 = cm
    · rw [if_pos hcm]; exact fin_over_same kind t key A4 n4 c4 cm A5 n5 c5 A0 c0 A1 c1 A2 c2 A3 c3 rs hs os ds ver w hr0 hc0 hr1 hc1 hr2 hc2 hr3 hc3 hd hcm
    · rw [if_neg hcm]; exact fin_over_other kind t key A4 n4 c4 cm A5 n5 c5 A0 c0 A1 c1 A2 c2 A3 c3 rs hs os ds ver w hr0 hc0 hr1 hc1 hr2 hc2 hr3 hc3 hd hcm
  rw [if_neg hd]
  rcases Int.lt_or_le (findI (qz16 t) os) 0 with hi | hi
  · have hfi := findI_neg0 _ _ (show ¬ 0 ≤ findI (qz16 t) os by omega)
    rw [if_pos hi]
    cases cm with
    | true => rw [if_pos rfl]; exact fin_none kind t key A4 n4 c4 true A5 n5 c5 A0 c0 A1 c1 A2 c2 A3 c3 rs hs os ds ver w hr0 hc0 hr1 hc1 hr2 hc2 hr3 hc3 hd hfi rfl
    | false =>
      rw [if_neg (by decide)]
      by_cases hf : 64 ≤ os.length + ds.length
      · rw [if_pos hf]; exact fin_full kind t key A4 n4 c4 false A5 n5 c5 A0 c0 A1 c1 A2 c2 A3 c3 rs hs os ds ver w hr0 hc0 hr1 hc1 hr2 hc2 hr3 hc3 hd hfi rfl (by omega) hf
      · rw [if_neg hf]; exact fin_none_ok kind t key A4 n4 c4 false A5 n5 c5 A0 c0 A1 c1 A2 c2 A3 c3 rs hs os ds ver w hr0 hc0 hr1 hc1 hr2 hc2 hr3 hc3 hd hfi rfl hf hl hlh
  obtain ⟨ii, hii, hfi⟩ := qz56 _ _ hi
  have hn : ¬ findI (qz16 t) os < 0 := by omega
  have hto : (findI (qz16 t) os).toNat = ii := by omega
  rw [if_neg hn, hto]
  cases cm with
  | false =>
    rw [if_neg (fun h => absurd h.1 (by decide)), if_neg (fun h => absurd h.1 (by decide))]
    exact fin_abort kind t key A4 n4 c4 false A5 n5 c5 A0 c0 A1 c1 A2 c2 A3 c3 rs hs os ds ver w hr0 hc0 hr1 hc1 hr2 hc2 hr3 hc3 hd ii hii hfi rfl _ _ rfl rfl hl hlh
  | true =>
    cases h1 : (os[ii]!).f1 with
    | false => rw [if_pos ⟨rfl, rfl⟩]; exact fin_order kind t key A4 n4 c4 true A5 n5 c5 A0 c0 A1 c1 A2 c2 A3 c3 rs hs os ds ver w hr0 hc0 hr1 hc1 hr2 hc2 hr3 hc3 hd ii hii hfi rfl _ h1 rfl
    | true =>
      rw [if_neg (fun h => absurd h.2 (by decide))]
      by_cases h3 : (os[ii]!).f3 = []
      · rw [if_neg (fun h => h.2 h3)]
        exact fin_empty kind t key A4 n4 c4 true A5 n5 c5 A0 c0 A1 c1 A2 c2 A3 c3 rs hs os ds ver w hr0 hc0 hr1 hc1 hr2 hc2 hr3 hc3 hd ii hii hfi rfl _ h1 rfl h3 hl hlh
      · rw [if_pos ⟨rfl, h3⟩]
        obtain ⟨rl, er, hall⟩ : ∃ rl er, allV rs (os[ii]!).f3 (IntKind.u64.wrap (ver + 1)) = (rl, er) := ⟨_, _, rfl⟩
        rw [hall]
        dsimp only
        by_cases he : er = 0
        · rw [if_neg (fun h => h he)]
          exact fin_commit kind t key A4 n4 c4 true A5 n5 c5 A0 c0 A1 c1 A2 c2 A3 c3 rs hs os ds ver w hr0 hc0 hr1 hc1 hr2 hc2 hr3 hc3 hd ii hii hfi rfl _ h1 rfl h3 _ rfl rl er hall hrl hl hlh he
        · rw [if_pos he]
          exact fin_bad kind t key A4 n4 c4 true A5 n5 c5 A0 c0 A1 c1 A2 c2 A3 c3 rs hs os ds ver w hr0 hc0 hr1 hc1 hr2 hc2 hr3 hc3 hd ii hii hfi rfl _ h1 rfl h3 _ rfl rl er hall hrl hl hlh he
def Off (q : Nat) (v : Value) (n : Nat) : Prop := 0 < n → ∀ b o c, v = .slice (some ⟨b, o, none⟩) n c → b ≠ q
theorem raw_grown {k q : Nat} {w W : World} {v : Value} {css : List (List Value)} (hk : 0 < k) (h : Sl (raw k) w v css) (hg : w.grownBy W (some q)) (hne : Off q v css.length) : Sl (raw k) W v css := by
  obtain ⟨A, c, rfl, hc, h⟩ := h
  refine ⟨A, c, rfl, hc, rfl, h.2.1, fun hn => ?_⟩
  obtain ⟨b, o, rfl, hrow⟩ := C_row h hk hn
  refine ⟨_, rfl, fun j p hj => ?_⟩
  have hjl := (List.getElem?_eq_some_iff.1 hj).1
  have hp : css[j]! = p := by rw [getElem!_pos css j hjl]; exact (List.getElem?_eq_some_iff.1 hj).2
  obtain ⟨cs, h1, h2, h3⟩ := hrow j hjl
  rw [hp] at h2
  obtain ⟨e, h4, h5⟩ := h2
  exact ⟨cs, h1, ⟨e, h4, h5⟩, fun i u hu => by
    have h := h3 i u hu
    show W.cell? (Addr.add ⟨b, o, none⟩ (j * k + i)) = some u
    have e : Addr.add ⟨b, o, none⟩ (j * k + i) = ⟨b, o + j * k + i, none⟩ := by
      unfold Addr.add
      by_cases c : j * k + i = 0
      · rw [if_pos c, Nat.add_assoc, c]; rfl
      · rw [if_neg c, Nat.add_assoc]
    rw [e]
    exact qz29 h hg (fun e => hne hn b o c rfl (Option.some.inj e))⟩
theorem flatGrown {α : Type} {d : Kd α} {k q : Nat} {enc : α → List Value} (F : Flat d k enc) {w W : World} {v : Value} {l : List α} (hk : 0 < k) (h : Sl d w v l) (hg : w.grownBy W (some q)) (hne : Off q v l.length) : Sl d W v l :=
  F.ofsl (raw_grown hk (F.sl h) hg (by rw [List.length_map]; exact hne))
structure NoRow (w : World) (q : Nat) : Prop where
  ss : ∀ o a b, ¬ (w.cell? ⟨q, o, none⟩ = some (.string a) ∧ w.cell? ⟨q, o + 1, none⟩ = some (.string b))
  sii : ∀ o a b c, ¬ (w.cell? ⟨q, o, none⟩ = some (.string a) ∧ w.cell? ⟨q, o + 1, none⟩ = some (.int .u64 b) ∧ w.cell? ⟨q, o + 2, none⟩ = some (.int .u64 c))
  ii : ∀ o a b, ¬ (w.cell? ⟨q, o, none⟩ = some (.int .u64 a) ∧ w.cell? ⟨q, o + 1, none⟩ = some (.int .u64 b))
theorem noRow_z {w : World} {q : Nat} {t : TypeId} {A0 A1 A2 A3 : Option Addr} {n0 c0 n1 c1 n2 c2 n3 c3 : Nat} {v : Int} (h : w.heap[q]? = some (.cells #[.slice A0 n0 c0, .slice A1 n1 c1, .slice A2 n2 c2, .slice A3 n3 c3, .int .u64 v] t (0, 0))) : NoRow w q := by
  have hc := qz15 (cs := [.slice A0 n0 c0, .slice A1 n1 c1, .slice A2 n2 c2, .slice A3 n3 c3, .int .u64 v]) h
  have hs : ∀ o a, w.cell? ⟨q, o, none⟩ ≠ some (.string a) := fun o a e => by
    rw [hc] at e
    match o, e with
    | 0, e => cases e
    | 1, e => cases e
    | 2, e => cases e
    | 3, e => cases e
    | 4, e => cases e
    | n + 5, e => simp at e
  refine ⟨fun o a b e => hs o a e.1, fun o a b c e => hs o a e.1, fun o a b e => ?_⟩
  rw [hc, hc] at e
  match o, e with
  | 0, e => cases e.1
  | 1, e => cases e.1
  | 2, e => cases e.1
  | 3, e => cases e.1
  | 4, e => simp at e
  | n + 5, e => simp at e
theorem noRow_a {w : World} {q : Nat} {t : TypeId} {e0 v0 : Int} {s : ByteArray} {f g : Bool} (h : w.heap[q]? = some (.cells #[.int .i64 e0, .string s, .int .u64 v0, .bool f, .bool g] t (0, 0))) : NoRow w q := by
  have hc := qz15 (cs := [.int .i64 e0, .string s, .int .u64 v0, .bool f, .bool g]) h
  refine ⟨fun o a b e => ?_, fun o a b c e => ?_, fun o a b e => ?_⟩
  · rw [hc, hc] at e
    match o, e with
    | 0, e => cases e.1
    | 1, e => cases e.2
    | 2, e => cases e.1
    | 3, e => cases e.1
    | 4, e => cases e.1
    | n + 5, e => simp at e
  · rw [hc, hc, hc] at e
    match o, e with
    | 0, e => cases e.1
    | 1, e => cases e.2.2
    | 2, e => cases e.1
    | 3, e => cases e.1
    | 4, e => cases e.1
    | n + 5, e => simp at e
  · rw [hc, hc] at e
    match o, e with
    | 0, e => cases e.1
    | 1, e => cases e.1
    | 2, e => cases e.2
    | 3, e => cases e.1
    | 4, e => cases e.1
    | n + 5, e => simp at e
theorem NoRow.row {w : World} {q : Nat} (h : NoRow w q) {v : Value} {l : List S50} (hl : Sl k50 w v l) : Off q v l.length := fun hn b o c e hb => by
  obtain ⟨A, c', rfl, hc, hr⟩ := hl
  cases e
  obtain ⟨b', o', e, h0, h1, _⟩ := rowRow hr 0 hn
  cases e
  subst hb
  exact h.ss _ _ _ ⟨h0, h1⟩
theorem NoRow.hold {w : World} {q : Nat} (h : NoRow w q) {v : Value} {l : List S75} (hl : Sl k75 w v l) : Off q v l.length := fun hn b o c e hb => by
  obtain ⟨A, c', rfl, hc, hr⟩ := hl
  cases e
  obtain ⟨b', o', e, h0, h1, h2, _⟩ := holdCells hr 0 hn
  cases e
  subst hb
  exact h.sii _ _ _ _ ⟨h0, h1, h2⟩
theorem NoRow.done {w : World} {q : Nat} (h : NoRow w q) {v : Value} {l : List S68} (hl : Sl k68 w v l) : Off q v l.length := fun hn b o c e hb => by
  obtain ⟨A, c', rfl, hc, hr⟩ := hl
  cases e
  obtain ⟨b', o', e, h0, h1, _⟩ := doneRow hr 0 hn
  cases e
  subst hb
  exact h.ii _ _ _ ⟨h0, h1⟩
theorem putCells {W : World} {l : List S54} {A : Option Addr} (h : Kd.C k54 W A l.length l) (j : Nat) (hj : j < l.length) : ∃ b o, A = some ⟨b, o, none⟩ ∧ W.cell? ⟨b, o + j * 3, none⟩ = some (.string (l[j]!).f0) ∧ W.cell? ⟨b, o + j * 3 + 1, none⟩ = some (.string (l[j]!).f1) ∧ W.cell? ⟨b, o + j * 3 + 2, none⟩ = some (.bool (l[j]!).f2) := by
  obtain ⟨b, o, rfl, hrow⟩ := C_row h (by decide) (by omega)
  obtain ⟨cs, hcs, hK, hrg⟩ := hrow j hj
  obtain rfl := flat54.openK _ _ _ hK
  exact ⟨b, o, rfl, hrg 0 _ rfl, hrg 1 _ rfl, hrg 2 _ rfl⟩
theorem NoRow.put {w : World} {q : Nat} (h : NoRow w q) {v : Value} {l : List S54} (hl : Sl k54 w v l) : Off q v l.length := fun hn b o c e hb => by
  obtain ⟨A, c', rfl, hc, hr⟩ := hl
  cases e
  obtain ⟨b', o', e, h0, h1, _⟩ := putCells hr 0 hn
  cases e
  subst hb
  exact h.ss _ _ _ ⟨h0, h1⟩
theorem NoRow.open {w : World} {q : Nat} (h : NoRow w q) {v : Value} {l : List S48} (hl : Sl k48 w v l) : Off q v l.length := fun hn b o c e hb => by
  obtain ⟨A, c', rfl, hc, hr⟩ := hl
  cases e
  obtain ⟨b', o', e, _, _, _, _, h0, h1, _⟩ := qz53 hr 0 hn
  cases e
  subst hb
  exact h.ii _ _ _ ⟨h0, h1⟩
theorem qz54.grown {q : Nat} {w W : World} {l : List S48} {css : List (List Value)} (h : qz54 w l css) (hq : NoRow w q) (hg : w.grownBy W (some q)) : qz54 W l css := by
  refine ⟨h.1, fun j hj => ?_⟩
  obtain ⟨B, c, e, h1, h2⟩ := h.cells j hj
  rw [e]
  have hs : Sl k54 w (.slice B (l[j]!).f3.length c) (l[j]!).f3 := ⟨B, c, rfl, h1, h2⟩
  obtain ⟨B', c', e', h3, h4⟩ := flatGrown flat54 (by decide) hs hg (hq.put hs)
  cases e'
  exact openK_mk h3 h4
theorem opens_grown {q : Nat} {w W : World} {v : Value} {l : List S48} (h : Sl k48 w v l) (hq : NoRow w q) (hg : w.grownBy W (some q)) : Sl k48 W v l := by
  obtain ⟨css, h1, h2⟩ := opens_raw h
  exact qz64 (h1.grown hq hg) (Below.refl _ _) (raw_grown (by decide) h2 hg (by rw [h1.1]; exact hq.open h))
theorem ShdV.grown {q : Nat} {w W : World} {v : Value} {s : Shd} (h : ShdV w v s) (hq : NoRow w q) (hg : w.grownBy W (some q)) : ShdV W v s := by
  obtain ⟨v0, v1, v2, v3, rfl, h0, h1, h2, h3⟩ := h
  exact ⟨v0, v1, v2, v3, rfl, flatGrown flat50 (by decide) h0 hg (hq.row h0), flatGrown flat75 (by decide) h1 hg (hq.hold h1), opens_grown h2 hq hg, flatGrown flat68 (by decide) h3 hg (hq.done h3)⟩
def doS (s : Shd) (kind : Int) (t : S30) (key : ByteArray) (ps : List S54) (cm : Bool) : Shd × Ans :=
  if kind = 1 ∨ kind = 2 then asksV s kind t key else if kind = 3 then prepsV s t ps else if kind = 4 then finsV s t cm else (s, errA 1)
theorem doOut {w w' : World} {r : Shd × Ans} {e : Ending} (h : qz32 w r e w') : ∃ A0 n0 c0 A1 n1 c1 A2 n2 c2 A3 n3 c3 : _, e = .returned (.tuple #[.agg #[.slice A0 n0 c0, .slice A1 n1 c1, .slice A2 n2 c2, .slice A3 n3 c3, .int .u64 r.1.ver], .agg #[.int .i64 r.2.err, .string r.2.val, .int .u64 r.2.ver, .bool r.2.found, .bool r.2.commit]]) ∧ ShdV w' (.agg #[.slice A0 n0 c0, .slice A1 n1 c1, .slice A2 n2 c2, .slice A3 n3 c3, .int .u64 r.1.ver]) r.1 ∧ Below w.heap.size w w' := by
  obtain ⟨v, rfl, hs, hb⟩ := h
  obtain ⟨v0, v1, v2, v3, rfl, ⟨A0, c0, rfl, h0⟩, ⟨A1, c1, rfl, h1⟩, ⟨A2, c2, rfl, h2⟩, ⟨A3, c3, rfl, h3⟩⟩ := hs
  exact ⟨_, _, _, _, _, _, _, _, _, _, _, _, rfl, ⟨_, _, _, _, rfl, ⟨A0, c0, rfl, h0⟩, ⟨A1, c1, rfl, h1⟩, ⟨A2, c2, rfl, h2⟩, ⟨A3, c3, rfl, h3⟩⟩, hb⟩
theorem put5_z {w : World} {n : Nat} {v : Value} {s : Shd} {t t2 : TypeId} {u : Int} {e0 v0 : Int} {st : ByteArray} {f g : Bool} (h : ShdV w v s) (hz : w.heap[n + 1 + 1]? = some (.cells #[.slice none 0 0, .slice none 0 0, .slice none 0 0, .slice none 0 0, .int .u64 u] t (0, 0))) (ha : w.heap[n + 1 + 1 + 1]? = some (.cells #[.int .i64 e0, .string st, .int .u64 v0, .bool f, .bool g] t2 (0, 0)))
    (a0 a1 a2 a3 a4 b0 b1 b2 b3 b4 : Value) : ShdV (put5 (put5 w (n + 1 + 1) a0 a1 a2 a3 a4) (n + 1 + 1 + 1) b0 b1 b2 b3 b4) v s := by
  have h1 := h.grown (noRow_z hz) (put5_grown w (n + 1 + 1) a0 a1 a2 a3 a4)
  exact h1.grown (noRow_a (qz47 (by omega) ha a0 a1 a2 a3 a4)) (put5_grown _ _ _ _ _ _ _)
set_option maxRecDepth 100000 in
set_option maxHeartbeats 8000000 in
theorem do_ask1 (t : S30) (key : ByteArray) (A4 : Option Addr) (c4 : Nat) (cm : Bool) (A5 : Option Addr) (n5 c5 : Nat) (A0 : Option Addr) (c0 : Nat) (A1 : Option Addr) (c1 : Nat) (A2 : Option Addr) (c2 : Nat) (A3 : Option Addr) (c3 : Nat) (rs : List S50) (hs : List S75) (os : List S48) (ds : List S68) (ver : Int) (w : World) (hr0 : Kd.C k50 w A0 rs.length rs) (hc0 : rs.length ≤ c0) (hr1 : Kd.C k75 w A1 hs.length hs) (hc1 : hs.length ≤ c1) (hr2 : Kd.C k48 w A2 os.length os) (hc2 : os.length ≤ c2) (hr3 : Kd.C k68 w A3 ds.length ds) (hc3 : ds.length ≤ c3) (ps : List S54) (hr4 : Kd.C k54 w A4 ps.length ps) (hc4 : ps.length ≤ c4) (hlim : ShdLim ⟨rs, hs, os, ds, ver⟩) :
    Calls Try.prog 11 #[.agg (shv A0 rs.length c0 A1 hs.length c1 A2 os.length c2 A3 ds.length c3 ver), .agg #[.int .i64 1, .int .u64 t.f0, .int .u64 t.f1, .string key, .slice A4 ps.length c4, .bool cm, .slice A5 n5 c5]] w (qz32 w (asksV ⟨rs, hs, os, ds, ver⟩ 1 t key)) := by
  obtain ⟨bS, bO, bZ, bA⟩ := qz38 w (.cells #[.slice A0 rs.length c0, .slice A1 hs.length c1, .slice A2 os.length c2, .slice A3 ds.length c3, .int .u64 ver] 28) (.cells #[.int .i64 1, .int .u64 t.f0, .int .u64 t.f1, .string key, .slice A4 ps.length c4, .bool cm, .slice A5 n5 c5] 34) (.cells #[.slice none 0 0, .slice none 0 0, .slice none 0 0, .slice none 0 0, .int .u64 0] 28) (.cells #[.int .i64 0, .string ⟨#[]⟩, .int .u64 0, .bool false, .bool false] 38)
  have hb4 : Below w.heap.size w ((((w.alloc (.cells #[.slice A0 rs.length c0, .slice A1 hs.length c1, .slice A2 os.length c2, .slice A3 ds.length c3, .int .u64 ver] 28)).alloc (.cells #[.int .i64 1, .int .u64 t.f0, .int .u64 t.f1, .string key, .slice A4 ps.length c4, .bool cm, .slice A5 n5 c5] 34)).alloc (.cells #[.slice none 0 0, .slice none 0 0, .slice none 0 0, .slice none 0 0, .int .u64 0] 28)).alloc (.cells #[.int .i64 0, .string ⟨#[]⟩, .int .u64 0, .bool false, .bool false] 38)) := ((((Below.refl w.heap.size w).alloc (Nat.le_refl _) _).alloc (by simp) _).alloc (by simp; omega) _).alloc (by simp; omega) _
  have HW4 : qza (((((w.alloc (.cells #[.slice A0 rs.length c0, .slice A1 hs.length c1, .slice A2 os.length c2, .slice A3 ds.length c3, .int .u64 ver] 28)).alloc (.cells #[.int .i64 1, .int .u64 t.f0, .int .u64 t.f1, .string key, .slice A4 ps.length c4, .bool cm, .slice A5 n5 c5] 34)).alloc (.cells #[.slice none 0 0, .slice none 0 0, .slice none 0 0, .slice none 0 0, .int .u64 0] 28)).alloc (.cells #[.int .i64 0, .string ⟨#[]⟩, .int .u64 0, .bool false, .bool false] 38)).heap.size = w.heap.size + 1 + 1 + 1 + 1) := ⟨by simp⟩
  have BZ := qza.mk bZ
  have BA := qza.mk bA
  have HB4 := qza.mk hb4
  have HCA := qza.mk (asks_calls 1 t key A4 ps.length c4 cm A5 n5 c5 A0 c0 A1 c1 A2 c2 A3 c3 rs hs os ds ver _ (Kd.C_below hr0 hb4) hc0 (Kd.C_below hr1 hb4) hc1 (Kd.C_below hr2 hb4) hc2 (Kd.C_below hr3 hb4) hc3 hlim)
  generalize asksV ⟨rs, hs, os, ds, ver⟩ 1 t key = R at *
  clear hr0 hc0 hr1 hc1 hr2 hc2 hr3 hc3 hr4 hc4
  obtain ⟨hs0, hs1, hs2, hs3, hs4⟩ := qz4 bS
  obtain ⟨ho0, ho1, ho2, ho3, ho4, ho5, ho6⟩ := qz12 bO
  clear bS bO bZ bA hb4
  obtain ⟨ta, ti⟩ := t
  unfold shv at *
  dsimp only at *
  go_enter Try.func11, Try.ntmps11
  go_wp2_with (go_at_call 21; refine (HCA.out).mono ?_; intro e w5 hpost; obtain ⟨E0, n0', d0, E1, n1', d1, E2, n2', d2, E3, n3', d3, rfl, hv5, hb5⟩ := doOut hpost; clear hpost hs0 hs1 hs2 hs3 hs4 ho0 ho1 ho2 ho3 ho4 ho5 ho6; have ZB7 := qza.mk (stay hb5 BZ.out (by rw [HW4.out]; omega)); have AB7 := qza.mk (stay hb5 BA.out (by rw [HW4.out]; omega)); obtain ⟨hz0, hz1, hz2, hz3, hz4⟩ := qz4 ZB7.out; obtain ⟨ha0, ha1, ha2, ha3, ha4⟩ := qz4 AB7.out; obtain ⟨hy0, hy1, hy2, hy3, hy4⟩ := qz14 ZB7.out; obtain ⟨hx0, hx1, hx2, hx3, hx4⟩ := qz14 AB7.out; have HB7 := qza.mk (HB4.out.trans (hb5.mono HB4.out.size)); have HV5 := qza.mk hv5; clear hv5 hb5)
  refine qz40 rfl rfl rfl rfl ZB7.out AB7.out (by omega) ?_
  exact ⟨_, rfl, put5_z HV5.out ZB7.out AB7.out _ _ _ _ _ _ _ _ _ _, qz7 (qz7 HB7.out (show w.heap.size ≤ w.heap.size + 1 + 1 by omega) _ _ _ _ _) (show w.heap.size ≤ w.heap.size + 1 + 1 + 1 by omega) _ _ _ _ _⟩
set_option maxRecDepth 100000 in
set_option maxHeartbeats 8000000 in
theorem do_ask2 (t : S30) (key : ByteArray) (A4 : Option Addr) (c4 : Nat) (cm : Bool) (A5 : Option Addr) (n5 c5 : Nat) (A0 : Option Addr) (c0 : Nat) (A1 : Option Addr) (c1 : Nat) (A2 : Option Addr) (c2 : Nat) (A3 : Option Addr) (c3 : Nat) (rs : List S50) (hs : List S75) (os : List S48) (ds : List S68) (ver : Int) (w : World) (hr0 : Kd.C k50 w A0 rs.length rs) (hc0 : rs.length ≤ c0) (hr1 : Kd.C k75 w A1 hs.length hs) (hc1 : hs.length ≤ c1) (hr2 : Kd.C k48 w A2 os.length os) (hc2 : os.length ≤ c2) (hr3 : Kd.C k68 w A3 ds.length ds) (hc3 : ds.length ≤ c3) (ps : List S54) (hr4 : Kd.C k54 w A4 ps.length ps) (hc4 : ps.length ≤ c4) (hlim : ShdLim ⟨rs, hs, os, ds, ver⟩) :
    Calls Try.prog 11 #[.agg (shv A0 rs.length c0 A1 hs.length c1 A2 os.length c2 A3 ds.length c3 ver), .agg #[.int .i64 2, .int .u64 t.f0, .int .u64 t.f1, .string key, .slice A4 ps.length c4, .bool cm, .slice A5 n5 c5]] w (qz32 w (asksV ⟨rs, hs, os, ds, ver⟩ 2 t key)) := by
  obtain ⟨bS, bO, bZ, bA⟩ := qz38 w (.cells #[.slice A0 rs.length c0, .slice A1 hs.length c1, .slice A2 os.length c2, .slice A3 ds.length c3, .int .u64 ver] 28) (.cells #[.int .i64 2, .int .u64 t.f0, .int .u64 t.f1, .string key, .slice A4 ps.length c4, .bool cm, .slice A5 n5 c5] 34) (.cells #[.slice none 0 0, .slice none 0 0, .slice none 0 0, .slice none 0 0, .int .u64 0] 28) (.cells #[.int .i64 0, .string ⟨#[]⟩, .int .u64 0, .bool false, .bool false] 38)
  have hb4 : Below w.heap.size w ((((w.alloc (.cells #[.slice A0 rs.length c0, .slice A1 hs.length c1, .slice A2 os.length c2, .slice A3 ds.length c3, .int .u64 ver] 28)).alloc (.cells #[.int .i64 2, .int .u64 t.f0, .int .u64 t.f1, .string key, .slice A4 ps.length c4, .bool cm, .slice A5 n5 c5] 34)).alloc (.cells #[.slice none 0 0, .slice none 0 0, .slice none 0 0, .slice none 0 0, .int .u64 0] 28)).alloc (.cells #[.int .i64 0, .string ⟨#[]⟩, .int .u64 0, .bool false, .bool false] 38)) := ((((Below.refl w.heap.size w).alloc (Nat.le_refl _) _).alloc (by simp) _).alloc (by simp; omega) _).alloc (by simp; omega) _
  have HW4 : qza (((((w.alloc (.cells #[.slice A0 rs.length c0, .slice A1 hs.length c1, .slice A2 os.length c2, .slice A3 ds.length c3, .int .u64 ver] 28)).alloc (.cells #[.int .i64 2, .int .u64 t.f0, .int .u64 t.f1, .string key, .slice A4 ps.length c4, .bool cm, .slice A5 n5 c5] 34)).alloc (.cells #[.slice none 0 0, .slice none 0 0, .slice none 0 0, .slice none 0 0, .int .u64 0] 28)).alloc (.cells #[.int .i64 0, .string ⟨#[]⟩, .int .u64 0, .bool false, .bool false] 38)).heap.size = w.heap.size + 1 + 1 + 1 + 1) := ⟨by simp⟩
  have BZ := qza.mk bZ
  have BA := qza.mk bA
  have HB4 := qza.mk hb4
  have HCA := qza.mk (asks_calls 2 t key A4 ps.length c4 cm A5 n5 c5 A0 c0 A1 c1 A2 c2 A3 c3 rs hs os ds ver _ (Kd.C_below hr0 hb4) hc0 (Kd.C_below hr1 hb4) hc1 (Kd.C_below hr2 hb4) hc2 (Kd.C_below hr3 hb4) hc3 hlim)
  generalize asksV ⟨rs, hs, os, ds, ver⟩ 2 t key = R at *
  clear hr0 hc0 hr1 hc1 hr2 hc2 hr3 hc3 hr4 hc4
  obtain ⟨hs0, hs1, hs2, hs3, hs4⟩ := qz4 bS
  obtain ⟨ho0, ho1, ho2, ho3, ho4, ho5, ho6⟩ := qz12 bO
  clear bS bO bZ bA hb4
  obtain ⟨ta, ti⟩ := t
  unfold shv at *
  dsimp only at *
  go_enter Try.func11, Try.ntmps11
  go_wp2_with (go_at_call 21; refine (HCA.out).mono ?_; intro e w5 hpost; obtain ⟨E0, n0', d0, E1, n1', d1, E2, n2', d2, E3, n3', d3, rfl, hv5, hb5⟩ := doOut hpost; clear hpost hs0 hs1 hs2 hs3 hs4 ho0 ho1 ho2 ho3 ho4 ho5 ho6; have ZB7 := qza.mk (stay hb5 BZ.out (by rw [HW4.out]; omega)); have AB7 := qza.mk (stay hb5 BA.out (by rw [HW4.out]; omega)); obtain ⟨hz0, hz1, hz2, hz3, hz4⟩ := qz4 ZB7.out; obtain ⟨ha0, ha1, ha2, ha3, ha4⟩ := qz4 AB7.out; obtain ⟨hy0, hy1, hy2, hy3, hy4⟩ := qz14 ZB7.out; obtain ⟨hx0, hx1, hx2, hx3, hx4⟩ := qz14 AB7.out; have HB7 := qza.mk (HB4.out.trans (hb5.mono HB4.out.size)); have HV5 := qza.mk hv5; clear hv5 hb5)
  refine qz40 rfl rfl rfl rfl ZB7.out AB7.out (by omega) ?_
  exact ⟨_, rfl, put5_z HV5.out ZB7.out AB7.out _ _ _ _ _ _ _ _ _ _, qz7 (qz7 HB7.out (show w.heap.size ≤ w.heap.size + 1 + 1 by omega) _ _ _ _ _) (show w.heap.size ≤ w.heap.size + 1 + 1 + 1 by omega) _ _ _ _ _⟩
set_option maxRecDepth 100000 in
set_option maxHeartbeats 8000000 in
theorem do_prep (t : S30) (key : ByteArray) (A4 : Option Addr) (c4 : Nat) (cm : Bool) (A5 : Option Addr) (n5 c5 : Nat) (A0 : Option Addr) (c0 : Nat) (A1 : Option Addr) (c1 : Nat) (A2 : Option Addr) (c2 : Nat) (A3 : Option Addr) (c3 : Nat) (rs : List S50) (hs : List S75) (os : List S48) (ds : List S68) (ver : Int) (w : World) (hr0 : Kd.C k50 w A0 rs.length rs) (hc0 : rs.length ≤ c0) (hr1 : Kd.C k75 w A1 hs.length hs) (hc1 : hs.length ≤ c1) (hr2 : Kd.C k48 w A2 os.length os) (hc2 : os.length ≤ c2) (hr3 : Kd.C k68 w A3 ds.length ds) (hc3 : ds.length ≤ c3) (ps : List S54) (hr4 : Kd.C k54 w A4 ps.length ps) (hc4 : ps.length ≤ c4) (hlim : ShdLim ⟨rs, hs, os, ds, ver⟩) (hks : ShdKeys ⟨rs, hs, os, ds, ver⟩) :
    Calls Try.prog 11 #[.agg (shv A0 rs.length c0 A1 hs.length c1 A2 os.length c2 A3 ds.length c3 ver), .agg #[.int .i64 3, .int .u64 t.f0, .int .u64 t.f1, .string key, .slice A4 ps.length c4, .bool cm, .slice A5 n5 c5]] w (qz32 w (prepsV ⟨rs, hs, os, ds, ver⟩ t ps)) := by
  obtain ⟨bS, bO, bZ, bA⟩ := qz38 w (.cells #[.slice A0 rs.length c0, .slice A1 hs.length c1, .slice A2 os.length c2, .slice A3 ds.length c3, .int .u64 ver] 28) (.cells #[.int .i64 3, .int .u64 t.f0, .int .u64 t.f1, .string key, .slice A4 ps.length c4, .bool cm, .slice A5 n5 c5] 34) (.cells #[.slice none 0 0, .slice none 0 0, .slice none 0 0, .slice none 0 0, .int .u64 0] 28) (.cells #[.int .i64 0, .string ⟨#[]⟩, .int .u64 0, .bool false, .bool false] 38)
  have hb4 : Below w.heap.size w ((((w.alloc (.cells #[.slice A0 rs.length c0, .slice A1 hs.length c1, .slice A2 os.length c2, .slice A3 ds.length c3, .int .u64 ver] 28)).alloc (.cells #[.int .i64 3, .int .u64 t.f0, .int .u64 t.f1, .string key, .slice A4 ps.length c4, .bool cm, .slice A5 n5 c5] 34)).alloc (.cells #[.slice none 0 0, .slice none 0 0, .slice none 0 0, .slice none 0 0, .int .u64 0] 28)).alloc (.cells #[.int .i64 0, .string ⟨#[]⟩, .int .u64 0, .bool false, .bool false] 38)) := ((((Below.refl w.heap.size w).alloc (Nat.le_refl _) _).alloc (by simp) _).alloc (by simp; omega) _).alloc (by simp; omega) _
  have HW4 : qza (((((w.alloc (.cells #[.slice A0 rs.length c0, .slice A1 hs.length c1, .slice A2 os.length c2, .slice A3 ds.length c3, .int .u64 ver] 28)).alloc (.cells #[.int .i64 3, .int .u64 t.f0, .int .u64 t.f1, .string key, .slice A4 ps.length c4, .bool cm, .slice A5 n5 c5] 34)).alloc (.cells #[.slice none 0 0, .slice none 0 0, .slice none 0 0, .slice none 0 0, .int .u64 0] 28)).alloc (.cells #[.int .i64 0, .string ⟨#[]⟩, .int .u64 0, .bool false, .bool false] 38)).heap.size = w.heap.size + 1 + 1 + 1 + 1) := ⟨by simp⟩
  have BZ := qza.mk bZ
  have BA := qza.mk bA
  have HB4 := qza.mk hb4
  have HCA := qza.mk (prep_calls 3 t key A4 ps.length c4 cm A5 n5 c5 A0 c0 A1 c1 A2 c2 A3 c3 rs hs os ds ver _ (Kd.C_below hr0 hb4) hc0 (Kd.C_below hr1 hb4) hc1 (Kd.C_below hr2 hb4) hc2 (Kd.C_below hr3 hb4) hc3 ps rfl (Kd.C_below hr4 hb4) hc4 hlim hks)
  generalize prepsV ⟨rs, hs, os, ds, ver⟩ t ps = R at *
  clear hr0 hc0 hr1 hc1 hr2 hc2 hr3 hc3 hr4 hc4
  obtain ⟨hs0, hs1, hs2, hs3, hs4⟩ := qz4 bS
  obtain ⟨ho0, ho1, ho2, ho3, ho4, ho5, ho6⟩ := qz12 bO
  clear bS bO bZ bA hb4
  obtain ⟨ta, ti⟩ := t
  unfold shv at *
  dsimp only at *
  go_enter Try.func11, Try.ntmps11
  go_wp2_with (go_at_call 22; refine (HCA.out).mono ?_; intro e w5 hpost; obtain ⟨E0, n0', d0, E1, n1', d1, E2, n2', d2, E3, n3', d3, rfl, hv5, hb5⟩ := doOut hpost; clear hpost hs0 hs1 hs2 hs3 hs4 ho0 ho1 ho2 ho3 ho4 ho5 ho6; have ZB7 := qza.mk (stay hb5 BZ.out (by rw [HW4.out]; omega)); have AB7 := qza.mk (stay hb5 BA.out (by rw [HW4.out]; omega)); obtain ⟨hz0, hz1, hz2, hz3, hz4⟩ := qz4 ZB7.out; obtain ⟨ha0, ha1, ha2, ha3, ha4⟩ := qz4 AB7.out; obtain ⟨hy0, hy1, hy2, hy3, hy4⟩ := qz14 ZB7.out; obtain ⟨hx0, hx1, hx2, hx3, hx4⟩ := qz14 AB7.out; have HB7 := qza.mk (HB4.out.trans (hb5.mono HB4.out.size)); have HV5 := qza.mk hv5; clear hv5 hb5)
  refine qz40 rfl rfl rfl rfl ZB7.out AB7.out (by omega) ?_
  exact ⟨_, rfl, put5_z HV5.out ZB7.out AB7.out _ _ _ _ _ _ _ _ _ _, qz7 (qz7 HB7.out (show w.heap.size ≤ w.heap.size + 1 + 1 by omega) _ _ _ _ _) (show w.heap.size ≤ w.heap.size + 1 + 1 + 1 by omega) _ _ _ _ _⟩
set_option maxRecDepth 100000 in
set_option maxHeartbeats 8000000 in
theorem do_fin (t : S30) (key : ByteArray) (A4 : Option Addr) (c4 : Nat) (cm : Bool) (A5 : Option Addr) (n5 c5 : Nat) (A0 : Option Addr) (c0 : Nat) (A1 : Option Addr) (c1 : Nat) (A2 : Option Addr) (c2 : Nat) (A3 : Option Addr) (c3 : Nat) (rs : List S50) (hs : List S75) (os : List S48) (ds : List S68) (ver : Int) (w : World) (hr0 : Kd.C k50 w A0 rs.length rs) (hc0 : rs.length ≤ c0) (hr1 : Kd.C k75 w A1 hs.length hs) (hc1 : hs.length ≤ c1) (hr2 : Kd.C k48 w A2 os.length os) (hc2 : os.length ≤ c2) (hr3 : Kd.C k68 w A3 ds.length ds) (hc3 : ds.length ≤ c3) (ps : List S54) (hr4 : Kd.C k54 w A4 ps.length ps) (hc4 : ps.length ≤ c4) (hlim : ShdLim ⟨rs, hs, os, ds, ver⟩) (hrl : rs.length ≤ 2000000000000) :
    Calls Try.prog 11 #[.agg (shv A0 rs.length c0 A1 hs.length c1 A2 os.length c2 A3 ds.length c3 ver), .agg #[.int .i64 4, .int .u64 t.f0, .int .u64 t.f1, .string key, .slice A4 ps.length c4, .bool cm, .slice A5 n5 c5]] w (qz32 w (finsV ⟨rs, hs, os, ds, ver⟩ t cm)) := by
  obtain ⟨bS, bO, bZ, bA⟩ := qz38 w (.cells #[.slice A0 rs.length c0, .slice A1 hs.length c1, .slice A2 os.length c2, .slice A3 ds.length c3, .int .u64 ver] 28) (.cells #[.int .i64 4, .int .u64 t.f0, .int .u64 t.f1, .string key, .slice A4 ps.length c4, .bool cm, .slice A5 n5 c5] 34) (.cells #[.slice none 0 0, .slice none 0 0, .slice none 0 0, .slice none 0 0, .int .u64 0] 28) (.cells #[.int .i64 0, .string ⟨#[]⟩, .int .u64 0, .bool false, .bool false] 38)
  have hb4 : Below w.heap.size w ((((w.alloc (.cells #[.slice A0 rs.length c0, .slice A1 hs.length c1, .slice A2 os.length c2, .slice A3 ds.length c3, .int .u64 ver] 28)).alloc (.cells #[.int .i64 4, .int .u64 t.f0, .int .u64 t.f1, .string key, .slice A4 ps.length c4, .bool cm, .slice A5 n5 c5] 34)).alloc (.cells #[.slice none 0 0, .slice none 0 0, .slice none 0 0, .slice none 0 0, .int .u64 0] 28)).alloc (.cells #[.int .i64 0, .string ⟨#[]⟩, .int .u64 0, .bool false, .bool false] 38)) := ((((Below.refl w.heap.size w).alloc (Nat.le_refl _) _).alloc (by simp) _).alloc (by simp; omega) _).alloc (by simp; omega) _
  have HW4 : qza (((((w.alloc (.cells #[.slice A0 rs.length c0, .slice A1 hs.length c1, .slice A2 os.length c2, .slice A3 ds.length c3, .int .u64 ver] 28)).alloc (.cells #[.int .i64 4, .int .u64 t.f0, .int .u64 t.f1, .string key, .slice A4 ps.length c4, .bool cm, .slice A5 n5 c5] 34)).alloc (.cells #[.slice none 0 0, .slice none 0 0, .slice none 0 0, .slice none 0 0, .int .u64 0] 28)).alloc (.cells #[.int .i64 0, .string ⟨#[]⟩, .int .u64 0, .bool false, .bool false] 38)).heap.size = w.heap.size + 1 + 1 + 1 + 1) := ⟨by simp⟩
  have BZ := qza.mk bZ
  have BA := qza.mk bA
  have HB4 := qza.mk hb4
  have HCA := qza.mk (fin_calls 4 t key A4 ps.length c4 cm A5 n5 c5 A0 c0 A1 c1 A2 c2 A3 c3 rs hs os ds ver _ (Kd.C_below hr0 hb4) hc0 (Kd.C_below hr1 hb4) hc1 (Kd.C_below hr2 hb4) hc2 (Kd.C_below hr3 hb4) hc3 hlim hrl)
  generalize finsV ⟨rs, hs, os, ds, ver⟩ t cm = R at *
  clear hr0 hc0 hr1 hc1 hr2 hc2 hr3 hc3 hr4 hc4
  obtain ⟨hs0, hs1, hs2, hs3, hs4⟩ := qz4 bS
  obtain ⟨ho0, ho1, ho2, ho3, ho4, ho5, ho6⟩ := qz12 bO
  clear bS bO bZ bA hb4
  obtain ⟨ta, ti⟩ := t
  unfold shv at *
  dsimp only at *
  go_enter Try.func11, Try.ntmps11
  go_wp2_with (go_at_call 23; refine (HCA.out).mono ?_; intro e w5 hpost; obtain ⟨E0, n0', d0, E1, n1', d1, E2, n2', d2, E3, n3', d3, rfl, hv5, hb5⟩ := doOut hpost; clear hpost hs0 hs1 hs2 hs3 hs4 ho0 ho1 ho2 ho3 ho4 ho5 ho6; have ZB7 := qza.mk (stay hb5 BZ.out (by rw [HW4.out]; omega)); have AB7 := qza.mk (stay hb5 BA.out (by rw [HW4.out]; omega)); obtain ⟨hz0, hz1, hz2, hz3, hz4⟩ := qz4 ZB7.out; obtain ⟨ha0, ha1, ha2, ha3, ha4⟩ := qz4 AB7.out; obtain ⟨hy0, hy1, hy2, hy3, hy4⟩ := qz14 ZB7.out; obtain ⟨hx0, hx1, hx2, hx3, hx4⟩ := qz14 AB7.out; have HB7 := qza.mk (HB4.out.trans (hb5.mono HB4.out.size)); have HV5 := qza.mk hv5; clear hv5 hb5)
  refine qz40 rfl rfl rfl rfl ZB7.out AB7.out (by omega) ?_
  exact ⟨_, rfl, put5_z HV5.out ZB7.out AB7.out _ _ _ _ _ _ _ _ _ _, qz7 (qz7 HB7.out (show w.heap.size ≤ w.heap.size + 1 + 1 by omega) _ _ _ _ _) (show w.heap.size ≤ w.heap.size + 1 + 1 + 1 by omega) _ _ _ _ _⟩
set_option maxRecDepth 100000 in
set_option maxHeartbeats 8000000 in
theorem do_else (kind : Int) (t : S30) (key : ByteArray) (A4 : Option Addr) (c4 : Nat) (cm : Bool) (A5 : Option Addr) (n5 c5 : Nat) (A0 : Option Addr) (c0 : Nat) (A1 : Option Addr) (c1 : Nat) (A2 : Option Addr) (c2 : Nat) (A3 : Option Addr) (c3 : Nat) (rs : List S50) (hs : List S75) (os : List S48) (ds : List S68) (ver : Int) (w : World) (hr0 : Kd.C k50 w A0 rs.length rs) (hc0 : rs.length ≤ c0) (hr1 : Kd.C k75 w A1 hs.length hs) (hc1 : hs.length ≤ c1) (hr2 : Kd.C k48 w A2 os.length os) (hc2 : os.length ≤ c2) (hr3 : Kd.C k68 w A3 ds.length ds) (hc3 : ds.length ≤ c3) (ps : List S54) (hr4 : Kd.C k54 w A4 ps.length ps) (hc4 : ps.length ≤ c4) (hk1 : kind ≠ 1) (hk2 : kind ≠ 2) (hk3 : kind ≠ 3) (hk4 : kind ≠ 4) :
    Calls Try.prog 11 #[.agg (shv A0 rs.length c0 A1 hs.length c1 A2 os.length c2 A3 ds.length c3 ver), .agg #[.int .i64 kind, .int .u64 t.f0, .int .u64 t.f1, .string key, .slice A4 ps.length c4, .bool cm, .slice A5 n5 c5]] w (qz32 w ((⟨rs, hs, os, ds, ver⟩, errA 1))) := by
  obtain ⟨bS, bO, bZ, bA⟩ := qz38 w (.cells #[.slice A0 rs.length c0, .slice A1 hs.length c1, .slice A2 os.length c2, .slice A3 ds.length c3, .int .u64 ver] 28) (.cells #[.int .i64 kind, .int .u64 t.f0, .int .u64 t.f1, .string key, .slice A4 ps.length c4, .bool cm, .slice A5 n5 c5] 34) (.cells #[.slice none 0 0, .slice none 0 0, .slice none 0 0, .slice none 0 0, .int .u64 0] 28) (.cells #[.int .i64 0, .string ⟨#[]⟩, .int .u64 0, .bool false, .bool false] 38)
  have hb4 : Below w.heap.size w ((((w.alloc (.cells #[.slice A0 rs.length c0, .slice A1 hs.length c1, .slice A2 os.length c2, .slice A3 ds.length c3, .int .u64 ver] 28)).alloc (.cells #[.int .i64 kind, .int .u64 t.f0, .int .u64 t.f1, .string key, .slice A4 ps.length c4, .bool cm, .slice A5 n5 c5] 34)).alloc (.cells #[.slice none 0 0, .slice none 0 0, .slice none 0 0, .slice none 0 0, .int .u64 0] 28)).alloc (.cells #[.int .i64 0, .string ⟨#[]⟩, .int .u64 0, .bool false, .bool false] 38)) := ((((Below.refl w.heap.size w).alloc (Nat.le_refl _) _).alloc (by simp) _).alloc (by simp; omega) _).alloc (by simp; omega) _
  have HW4 : qza (((((w.alloc (.cells #[.slice A0 rs.length c0, .slice A1 hs.length c1, .slice A2 os.length c2, .slice A3 ds.length c3, .int .u64 ver] 28)).alloc (.cells #[.int .i64 kind, .int .u64 t.f0, .int .u64 t.f1, .string key, .slice A4 ps.length c4, .bool cm, .slice A5 n5 c5] 34)).alloc (.cells #[.slice none 0 0, .slice none 0 0, .slice none 0 0, .slice none 0 0, .int .u64 0] 28)).alloc (.cells #[.int .i64 0, .string ⟨#[]⟩, .int .u64 0, .bool false, .bool false] 38)).heap.size = w.heap.size + 1 + 1 + 1 + 1) := ⟨by simp⟩
  have BZ := qza.mk bZ
  have BA := qza.mk bA
  have HB4 := qza.mk hb4
  have HCA := qza.mk (fun (W : World) => qz35 A0 rs.length c0 A1 hs.length c1 A2 os.length c2 A3 ds.length c3 ver 1 W)
  have HR0 := qza.mk hr0
  have HR1 := qza.mk hr1
  have HR2 := qza.mk hr2
  have HR3 := qza.mk hr3
  have HC0 := qza.mk hc0
  have HC1 := qza.mk hc1
  have HC2 := qza.mk hc2
  have HC3 := qza.mk hc3
  clear hr0 hc0 hr1 hc1 hr2 hc2 hr3 hc3 hr4 hc4
  obtain ⟨hs0, hs1, hs2, hs3, hs4⟩ := qz4 bS
  obtain ⟨ho0, ho1, ho2, ho3, ho4, ho5, ho6⟩ := qz12 bO
  clear bS bO bZ bA hb4
  obtain ⟨ta, ti⟩ := t
  unfold shv at *
  dsimp only at *
  go_enter Try.func11, Try.ntmps11
  go_wp2_with (go_at_call 24; refine (HCA.out _).mono ?_; rintro e w5 ⟨rfl, hb5⟩; clear hs0 hs1 hs2 hs3 hs4 ho0 ho1 ho2 ho3 ho4 ho5 ho6; have ZB7 := qza.mk (stay hb5 BZ.out (by rw [HW4.out]; omega)); have AB7 := qza.mk (stay hb5 BA.out (by rw [HW4.out]; omega)); obtain ⟨hz0, hz1, hz2, hz3, hz4⟩ := qz4 ZB7.out; obtain ⟨ha0, ha1, ha2, ha3, ha4⟩ := qz4 AB7.out; obtain ⟨hy0, hy1, hy2, hy3, hy4⟩ := qz14 ZB7.out; obtain ⟨hx0, hx1, hx2, hx3, hx4⟩ := qz14 AB7.out; have HB7 := qza.mk (HB4.out.trans (hb5.mono HB4.out.size)); clear hb5)
  refine qz40 rfl rfl rfl rfl ZB7.out AB7.out (by omega) ?_
  exact qz30 HR0.out HC0.out HR1.out HC1.out HR2.out HC2.out HR3.out HC3.out (qz7 (qz7 HB7.out (show w.heap.size ≤ w.heap.size + 1 + 1 by omega) _ _ _ _ _) (show w.heap.size ≤ w.heap.size + 1 + 1 + 1 by omega) _ _ _ _ _) _ _ _ _ _
structure ShdOk (s : Shd) : Prop where
  lim : ShdLim s
  keys : ShdKeys s
  rl : s.rows.length ≤ 2000000000000
theorem do_calls (kind : Int) (t : S30) (key : ByteArray) (A4 : Option Addr) (c4 : Nat) (cm : Bool) (A5 : Option Addr) (n5 c5 : Nat) (A0 : Option Addr) (c0 : Nat) (A1 : Option Addr) (c1 : Nat) (A2 : Option Addr) (c2 : Nat) (A3 : Option Addr) (c3 : Nat) (rs : List S50) (hs : List S75) (os : List S48) (ds : List S68) (ver : Int) (w : World) (hr0 : Kd.C k50 w A0 rs.length rs) (hc0 : rs.length ≤ c0) (hr1 : Kd.C k75 w A1 hs.length hs) (hc1 : hs.length ≤ c1) (hr2 : Kd.C k48 w A2 os.length os) (hc2 : os.length ≤ c2) (hr3 : Kd.C k68 w A3 ds.length ds) (hc3 : ds.length ≤ c3) (ps : List S54) (hr4 : Kd.C k54 w A4 ps.length ps) (hc4 : ps.length ≤ c4) (hok : ShdOk ⟨rs, hs, os, ds, ver⟩) :
    Calls Try.prog 11 #[.agg (shv A0 rs.length c0 A1 hs.length c1 A2 os.length c2 A3 ds.length c3 ver), .agg #[.int .i64 kind, .int .u64 t.f0, .int .u64 t.f1, .string key, .slice A4 ps.length c4, .bool cm, .slice A5 n5 c5]] w (qz32 w (doS ⟨rs, hs, os, ds, ver⟩ kind t key ps cm)) := by
  unfold doS
  by_cases h1 : kind = 1
  · subst h1
    rw [if_pos (.inl rfl)]
    exact do_ask1 t key A4 c4 cm A5 n5 c5 A0 c0 A1 c1 A2 c2 A3 c3 rs hs os ds ver w hr0 hc0 hr1 hc1 hr2 hc2 hr3 hc3 ps hr4 hc4 hok.lim
  by_cases h2 : kind = 2
  · subst h2
    rw [if_pos (.inr rfl)]
    exact do_ask2 t key A4 c4 cm A5 n5 c5 A0 c0 A1 c1 A2 c2 A3 c3 rs hs os ds ver w hr0 hc0 hr1 hc1 hr2 hc2 hr3 hc3 ps hr4 hc4 hok.lim
  rw [if_neg (fun h => h.elim h1 h2)]
  by_cases h3 : kind = 3
  · subst h3
    rw [if_pos rfl]
    exact do_prep t key A4 c4 cm A5 n5 c5 A0 c0 A1 c1 A2 c2 A3 c3 rs hs os ds ver w hr0 hc0 hr1 hc1 hr2 hc2 hr3 hc3 ps hr4 hc4 hok.lim hok.keys
  rw [if_neg h3]
  by_cases h4 : kind = 4
  · subst h4
    rw [if_pos rfl]
    exact do_fin t key A4 c4 cm A5 n5 c5 A0 c0 A1 c1 A2 c2 A3 c3 rs hs os ds ver w hr0 hc0 hr1 hc1 hr2 hc2 hr3 hc3 ps hr4 hc4 hok.lim hok.rl
  rw [if_neg h4]
  exact do_else kind t key A4 c4 cm A5 n5 c5 A0 c0 A1 c1 A2 c2 A3 c3 rs hs os ds ver w hr0 hc0 hr1 hc1 hr2 hc2 hr3 hc3 ps hr4 hc4 h1 h2 h3 h4
end Go.Proofs.Ytmcgcdpiceikeaa.PAll
end
