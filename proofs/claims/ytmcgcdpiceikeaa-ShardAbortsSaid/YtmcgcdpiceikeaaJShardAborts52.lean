/- Whatever was ordered of an empty shard: what is aborted then leaves no trace in the rows, nor a lock. No condition beside the form's own. -/
import Derived.Test.YtmcgcdpiceikeaaJShardAborts51
import Derived.BigQuiet
import Derived.BigRegion
import Derived.Deep.QuietTactic
import Derived.Deep.RegionWith
import Derived.Below
import Derived.ChangeOld
import Derived.OpenShut
import Derived.ProofKit
import Derived.ShutString
import Derived.SizedLaws
import Derived.Test.YtmcgcdpiceikeaaRows
import Derived.WalkKit
section
/- What the laws' arguments read as: orders. -/
namespace Go.Proofs.Ytmcgcdpiceikeaa.PAll
open Go.RowKit Go.Proofs.YtmcgcdpiceikeaaW.PrintWords Go.Proofs.Ytmcgcdpiceikeaa
set_option linter.unusedVariables false
structure S61 where
  f0 : (List S34)
  f1 : S30
  f2 : ByteArray
  f3 : (List S34)
theorem lenAt2 {α : Type _} {cs : List α} (h : cs.length = 2) : ∃ c0 c1, cs = [c0, c1] := by
  match cs, h with
  | [c0, c1], _ => exact ⟨_, _, rfl⟩
theorem lenAt3 {α : Type _} {cs : List α} (h : cs.length = 3) : ∃ c0 c1 c2, cs = [c0, c1, c2] := by
  match cs, h with
  | [c0, c1, c2], _ => exact ⟨_, _, _, rfl⟩
theorem lenAt6 {α : Type _} {cs : List α} (h : cs.length = 6) : ∃ c0 c1 c2 c3 c4 c5, cs = [c0, c1, c2, c3, c4, c5] := by
  match cs, h with
  | [c0, c1, c2, c3, c4, c5], _ => exact ⟨_, _, _, _, _, _, rfl⟩
theorem lenAt7 {α : Type _} {cs : List α} (h : cs.length = 7) : ∃ c0 c1 c2 c3 c4 c5 c6, cs = [c0, c1, c2, c3, c4, c5, c6] := by
  match cs, h with
  | [c0, c1, c2, c3, c4, c5, c6], _ => exact ⟨_, _, _, _, _, _, _, rfl⟩
def ok30 (x : S30) : Prop := (fun n : Int => (Lit.int .u64 n).wf = true) x.f0 ∧ (fun n : Int => (Lit.int .u64 n).wf = true) x.f1
theorem cells30 : Try.prog.cellsOf 30 = 2 := by kernel_rfl
set_option maxRecDepth 100000 in
theorem opens30 : Opens Try.prog 30 k30 ok30 := by
  intro H enc w base spare held fuel cs x ps h hw
  obtain ⟨xs, n, _, hx, hl, hlen, hf⟩ := DataW.trod_struct Try.underlying30 h
  simp only [Prod.mk.injEq] at hx
  obtain ⟨rfl, _⟩ := hx
  obtain ⟨y0, y1, rfl⟩ : ∃ y0 y1, xs = [y0, y1] := by
    have hz : xs.length = 2 := by rw [hlen]; rfl
    exact lenAt2 hz
  obtain ⟨c0, c1, rfl⟩ := lenAt2 (hl.trans cells30)
  have h0 : DataW.trod enc Try.prog w base spare held n 26 [c0] = some y0 := hf 0 _ rfl
  have h1 : DataW.trod enc Try.prog w base spare held n 26 [c1] = some y1 := hf 1 _ rfl
  simp only [DataW.weights, Try.underlying30, List.map_cons, List.map_nil, DataW.weightsEach, List.mem_append] at hw
  obtain ⟨a0, k0_, s0⟩ := (Opens.int (k := .u64) Try.underlying26) H enc w base spare held n _ y0.1 y0.2 h0 (fun q hq => hw q (.inl hq))
  obtain ⟨a1, k1_, s1⟩ := (Opens.int (k := .u64) Try.underlying26) H enc w base spare held n _ y1.1 y1.2 h1 (fun q hq => hw q (.inr (.inl hq)))
  exact ⟨⟨a0, a1⟩, ⟨[c0], [c1], rfl, k0_, k1_⟩, s0, s1⟩
def ok54 (x : S54) : Prop := (fun s : ByteArray => s.size ≤ 140737488351232) x.f0 ∧ (fun s : ByteArray => s.size ≤ 140737488351232) x.f1 ∧ (fun _ : Bool => True) x.f2
theorem cells54 : Try.prog.cellsOf 54 = 3 := by kernel_rfl
set_option maxRecDepth 100000 in
theorem opens54 : Opens Try.prog 54 k54 ok54 := by
  intro H enc w base spare held fuel cs x ps h hw
  obtain ⟨xs, n, _, hx, hl, hlen, hf⟩ := DataW.trod_struct Try.underlying54 h
  simp only [Prod.mk.injEq] at hx
  obtain ⟨rfl, _⟩ := hx
  obtain ⟨y0, y1, y2, rfl⟩ : ∃ y0 y1 y2, xs = [y0, y1, y2] := by
    have hz : xs.length = 3 := by rw [hlen]; rfl
    exact lenAt3 hz
  obtain ⟨c0, c1, c2, rfl⟩ := lenAt3 (hl.trans cells54)
  have h0 : DataW.trod enc Try.prog w base spare held n 9 [c0] = some y0 := hf 0 _ rfl
  have h1 : DataW.trod enc Try.prog w base spare held n 9 [c1] = some y1 := hf 1 _ rfl
  have h2 : DataW.trod enc Try.prog w base spare held n 4 [c2] = some y2 := hf 2 _ rfl
  simp only [DataW.weights, Try.underlying54, List.map_cons, List.map_nil, DataW.weightsEach, List.mem_append] at hw
  obtain ⟨a0, k0_, s0⟩ := (Opens.string Try.underlying9) H enc w base spare held n _ y0.1 y0.2 h0 (fun q hq => hw q (.inl hq))
  obtain ⟨a1, k1_, s1⟩ := (Opens.string Try.underlying9) H enc w base spare held n _ y1.1 y1.2 h1 (fun q hq => hw q (.inr (.inl hq)))
  obtain ⟨a2, k2_, s2⟩ := (Opens.bool Try.underlying4) H enc w base spare held n _ y2.1 y2.2 h2 (fun q hq => hw q (.inr (.inr (.inl hq))))
  exact ⟨⟨a0, a1, a2⟩, ⟨[c0], [c1, c2], rfl, k0_, ⟨[c1], [c2], rfl, k1_, k2_⟩⟩, s0, s1, s2⟩
def ok34 (x : S34) : Prop := (fun n : Int => (Lit.int .i64 n).wf = true) x.f0 ∧ ok30 x.f1 ∧ (fun s : ByteArray => s.size ≤ 140737488351232) x.f2 ∧ (fun l => l.length * Try.prog.bytesOf 54 ≤ 140737488351232 ∧ ∀ x ∈ l, ok54 x) x.f3 ∧ (fun _ : Bool => True) x.f4 ∧ (fun l => l.length * Try.prog.bytesOf 26 ≤ 140737488351232 ∧ ∀ x ∈ l, (fun n : Int => (Lit.int .u64 n).wf = true) x) x.f5
theorem cells34 : Try.prog.cellsOf 34 = 7 := by kernel_rfl
set_option maxRecDepth 100000 in
theorem opens34 : Opens Try.prog 34 k34 ok34 := by
  intro H enc w base spare held fuel cs x ps h hw
  obtain ⟨xs, n, _, hx, hl, hlen, hf⟩ := DataW.trod_struct Try.underlying34 h
  simp only [Prod.mk.injEq] at hx
  obtain ⟨rfl, _⟩ := hx
  obtain ⟨y0, y1, y2, y3, y4, y5, rfl⟩ : ∃ y0 y1 y2 y3 y4 y5, xs = [y0, y1, y2, y3, y4, y5] := by
    have hz : xs.length = 6 := by rw [hlen]; rfl
    exact lenAt6 hz
  obtain ⟨c0, c1, c2, c3, c4, c5, c6, rfl⟩ := lenAt7 (hl.trans cells34)
  have h0 : DataW.trod enc Try.prog w base spare held n 3 [c0] = some y0 := hf 0 _ rfl
  have h1 : DataW.trod enc Try.prog w base spare held n 30 [c1, c2] = some y1 := hf 1 _ rfl
  have h2 : DataW.trod enc Try.prog w base spare held n 9 [c3] = some y2 := hf 2 _ rfl
  have h3 : DataW.trod enc Try.prog w base spare held n 31 [c4] = some y3 := hf 3 _ rfl
  have h4 : DataW.trod enc Try.prog w base spare held n 4 [c5] = some y4 := hf 4 _ rfl
  have h5 : DataW.trod enc Try.prog w base spare held n 32 [c6] = some y5 := hf 5 _ rfl
  simp only [DataW.weights, Try.underlying34, List.map_cons, List.map_nil, DataW.weightsEach, List.mem_append] at hw
  obtain ⟨a0, k0_, s0⟩ := (Opens.int (k := .i64) Try.underlying3) H enc w base spare held n _ y0.1 y0.2 h0 (fun q hq => hw q (.inl hq))
  obtain ⟨a1, k1_, s1⟩ := opens30 H enc w base spare held n _ y1.1 y1.2 h1 (fun q hq => hw q (.inr (.inl hq)))
  obtain ⟨a2, k2_, s2⟩ := (Opens.string Try.underlying9) H enc w base spare held n _ y2.1 y2.2 h2 (fun q hq => hw q (.inr (.inr (.inl hq))))
  obtain ⟨a3, k3_, s3⟩ := (Opens.slice Try.underlying31 (by kernel_rfl) opens54) H enc w base spare held n _ y3.1 y3.2 h3 (fun q hq => hw q (.inr (.inr (.inr (.inl hq)))))
  obtain ⟨a4, k4_, s4⟩ := (Opens.bool Try.underlying4) H enc w base spare held n _ y4.1 y4.2 h4 (fun q hq => hw q (.inr (.inr (.inr (.inr (.inl hq))))))
  obtain ⟨a5, k5_, s5⟩ := (Opens.slice Try.underlying32 (by kernel_rfl) (Opens.int (k := .u64) Try.underlying26)) H enc w base spare held n _ y5.1 y5.2 h5 (fun q hq => hw q (.inr (.inr (.inr (.inr (.inr (.inl hq)))))))
  exact ⟨⟨a0, a1, a2, a3, a4, a5⟩, ⟨[c0], [c1, c2, c3, c4, c5, c6], rfl, k0_, ⟨[c1, c2], [c3, c4, c5, c6], rfl, k1_, ⟨[c3], [c4, c5, c6], rfl, k2_, ⟨[c4], [c5, c6], rfl, k3_, ⟨[c5], [c6], rfl, k4_, k5_⟩⟩⟩⟩⟩, s0, s1, s2, s3, s4, s5⟩
theorem wf_u64d {n : Int} (h : (Lit.int .u64 n).wf = true) : 0 ≤ n ∧ n < 18446744073709551616 := by
  simp [Lit.wf, IntKind.min, IntKind.max, IntKind.signed, IntKind.bits] at h
  omega
theorem okTx_of {x : S30} (h : ok30 x) : okTx x := ⟨wf_u64d h.1, wf_u64d h.2⟩
theorem okTx_orders {l : List S34} (h : ∀ x ∈ l, ok34 x) : ∀ x ∈ l, okTx x.f1 := fun x hx => okTx_of (h x hx).2.1
end Go.Proofs.Ytmcgcdpiceikeaa.PAll
end
section
/- The law ShardAborts, walked. -/
namespace Go.Proofs.Ytmcgcdpiceikeaa.PAll
open Go.RowKit Go.Proofs.YtmcgcdpiceikeaaW.PrintWords Go.Proofs.YtmcgcdpiceikeaaW.PrintMore Go.Proofs.Ytmcgcdpiceikeaa
set_option linter.unusedVariables false
/-- What an abort comes to. -/
theorem aborts_plain {S : Shd} (h : InvS S) (t : S30) (key : ByteArray) : ((doS S 4 t ⟨#[]⟩ [] false).2.err ≠ 0 ∧ (doS S 4 t ⟨#[]⟩ [] false).1 = S) ∨
    ((doS S 4 t ⟨#[]⟩ [] false).2.err = 0 ∧ (doS S 4 t ⟨#[]⟩ [] false).1.rows = S.rows ∧ (doS S 4 t ⟨#[]⟩ [] false).1.ver = S.ver ∧ hasV (doS S 4 t ⟨#[]⟩ [] false).1.holds t key false = false ∧ ∀ x ∈ (doS S 4 t ⟨#[]⟩ [] false).1.opens, sameTx x.f0 t = false) := by
  have e : doS S 4 t ⟨#[]⟩ [] false = finsV S t false := rfl
  rw [e]
  have hno : ∀ (l : List S75), (∀ x ∈ l, x.f1 ≠ t) → hasV l t key false = false := fun l hl => by
    cases hv : hasV l t key false with
    | false => rfl
    | true =>
      obtain ⟨x, hx, h1, _⟩ := hasV_iff.1 hv
      exact absurd h1 (hl x hx)
  have hdone : ∀ (rows : List S50) (ver : Int), hasV (finS S t false rows ver).1.holds t key false = false ∧ ∀ x ∈ (finS S t false rows ver).1.opens, sameTx x.f0 t = false := fun rows ver => by
    unfold finS
    refine ⟨hno _ (fun x hx => ?_), fun x hx => ?_⟩
    · unfold dropV at hx
      rw [List.mem_filter, Bool.not_eq_true'] at hx
      exact same_false.1 hx.2
    · rw [List.mem_filter, Bool.not_eq_true'] at hx
      exact hx.2
  unfold finsV
  split
  · rename_i hd
    dsimp only
    split
    · right
      obtain ⟨d, hd1, hd2⟩ := over_iff.1 hd
      refine ⟨rfl, rfl, rfl, hno _ (fun x hx e => ?_), fun x hx => ?_⟩
      · obtain ⟨y, hy, y1, _⟩ := h.held x hx
        exact h.apart y hy d hd1 (by rw [y1, e, hd2])
      · exact same_false.2 (fun e => h.apart x hx d hd1 (by rw [e, hd2]))
    · left; exact ⟨by decide, rfl⟩
  split
  · rw [if_neg (by decide)]
    split
    · left; exact ⟨by show (5 : Int) ≠ 0; decide, rfl⟩
    · right
      exact ⟨rfl, rfl, rfl, (hdone _ _).1, (hdone _ _).2⟩
  · rw [if_neg (fun h => absurd h.1 (by decide)), if_neg (fun h => absurd h.1 (by decide))]
    right
    exact ⟨rfl, rfl, rfl, (hdone _ _).1, (hdone _ _).2⟩
theorem has12_calls (A : Option Addr) (c : Nat) (l : List S75) (t : S30) (key : ByteArray) (wr : Bool) (w : World) (hr : Kd.C k75 w A l.length l) (hc : l.length ≤ c) : Calls Try.prog 18 #[.slice A l.length c, .agg #[.int .u64 t.f0, .int .u64 t.f1], .string key, .bool wr] w fun e w' => e = .returned (.bool (hasV l t key wr)) ∧ Below w.heap.size w w' := by
  obtain ⟨k, hk⟩ := (rHas_ev l t key wr hr.2.1).rounds
  refine (ferruleref12_Has.calls k A c l t.f0 t.f1 key wr _ w hr hc hk).mono ?_
  rintro e w' ⟨rfl, hd⟩
  exact ⟨rfl, by first | exact hd | exact hd.below⟩
set_option maxHeartbeats 8000000 in
set_option maxRecDepth 100000 in
theorem ShardAborts_walk {w : World} (A : Option Addr) (c : Nat) (l : List S34) (hr : Kd.C k34 w A l.length l) (hc : l.length ≤ c) (hs : l.length * Try.prog.bytesOf 34 ≤ 140737488351232 ∧ ∀ x ∈ l, ok34 x) (cs : Array Value) (x : S30) (hx : k30.K w x cs.toList) (hsx : ok30 x) (key : ByteArray) (hk : key.size ≤ 140737488351232) :
    Calls Try.prog 7 #[.slice A l.length c, .agg cs, .string key] w fun e w' => e = .returned (.bool true) ∧ Below w.heap.size w w' := by
  obtain rfl := txCellsA hx
  have HOK := Aside0.mk (okTx_orders hs.2)
  have HT := Aside0.mk (okTx_of hsx)
  have HR := Aside0.mk hr
  have hll : l.length ≤ 9223372036854775807 := hr.2.1
  obtain ⟨ta, ti⟩ := x
  clear hx hsx hs hr
  have HT0 := Aside0.mk (heap_alloc_new w (.cells #[.int .u64 ta, .int .u64 ti] 30))
  have HB0 := Aside0.mk ((Below.refl w.heap.size w).alloc (Nat.le_refl _) (.cells #[.int .u64 ta, .int .u64 ti] 30))
  have HS0 : Aside0 (w.heap.size < (w.alloc (.cells #[.int .u64 ta, .int .u64 ti] 30)).heap.size) := ⟨by simp⟩
  go_enter Try.func7, Try.ntmps7
  try dsimp only
  go_wp2_with (go_at_call 10; refine (shown13 _).mono ?_; rintro e w1 ⟨rfl, hb1⟩; have HBB1 := Aside0.mk hb1; clear hb1)
  have HT1 := Aside0.mk (stayA (stay HBB1.out HT0.out HS0.out) (.cells #[.slice none 0 0, .slice none 0 0, .slice none 0 0, .slice none 0 0, .int .u64 0] 28))
  have HB1 := Aside0.mk (HB0.out.trans (HBB1.out.mono HB0.out.size))
  have HB2 := Aside0.mk (HB1.out.alloc HB1.out.size (.cells #[.slice none 0 0, .slice none 0 0, .slice none 0 0, .slice none 0 0, .int .u64 0] 28))
  have hq : w.heap.size < w1.heap.size := Nat.lt_of_lt_of_le HS0.out HBB1.out.size
  have HX1 := Aside0.mk (emptyAt w1)
  generalize w1.alloc (.cells #[.slice none 0 0, .slice none 0 0, .slice none 0 0, .slice none 0 0, .int .u64 0] 28) = w2 at *
  generalize w1.heap.size = q at *
  clear HT0 HB0 HS0 HBB1 HB1
  go_loopg [9] l.length (fun gg s9 wr => ∃ jj : Nat, jj ≤ l.length ∧ l.length - jj ≤ gg ∧ s9 = .int .i64 jj ∧ Aside0 (Below w.heap.size w wr) ∧ Aside0 (ShdAt wr q (runS emptyS (l.take jj))) ∧ Aside0 (wr.heap[w.heap.size]? = some (.cells #[.int .u64 ta, .int .u64 ti] 30 (0, 0))))
  case atStart => exact ⟨0, Nat.zero_le _, by omega, rfl, HB2, HX1, HT1⟩
  case round =>
    obtain ⟨jj, hjj, hgk, rfl, HBr, HXr, HTr⟩ := hrel
    by_cases hlt : jj < l.length
    · have hltz : (jj : Int) < (l.length : Int) := by omega
      have hjz : (0 : Int) ≤ (jj : Int) := by omega
      obtain ⟨b, o, rfl, B, cB, D, nD, dD, hpl, hpr, ho0, ho1, ho2, ho3, ho4, ho5, ho6⟩ := orderRow (Kd.C_below HR.out HBr.out) jj hlt
      obtain ⟨A0, m0, c0, A1, m1, c1, A2, m2, c2, A3, m3, c3, hX, hDO⟩ := do_at HXr.out
      obtain ⟨hs0, hs1, hs2, hs3, hs4⟩ := cells_5 hX
      have HC := Aside0.mk (hDO (l[jj]!).f0 (l[jj]!).f1 (l[jj]!).f2 B _ cB (l[jj]!).f4 D nD dD (l[jj]!).f3 wr.drew rfl (Kd.C_below hpr (Below.refl _ _).drew) hpl (runS_take InvS.empty HOK.out jj).ok (Below.refl _ _).drew)
      have HST := Aside0.mk (runS_step emptyS l jj hlt)
      have HX := Aside0.mk hX
      have HXL := Aside0.mk HXr.out.lt
      have HRR : Aside0 (doO (runS emptyS (l.take jj)) (l[jj]!) = doS (runS emptyS (l.take jj)) (l[jj]!).f0 (l[jj]!).f1 (l[jj]!).f2 (l[jj]!).f3 (l[jj]!).f4) := ⟨rfl⟩
      rw [← HRR.out] at HC
      clear hX hDO hpl hpr HRR
      generalize l[jj]! = od at *
      obtain ⟨od0, ⟨od1, od2⟩, od3, odp, od5, odq⟩ := od
      dsimp only at *
      generalize hR : doO (runS emptyS (l.take jj)) ⟨od0, ⟨od1, od2⟩, od3, odp, od5, odq⟩ = R at *
      generalize odp.length = np at *
      clear hR
      go_wp2
      go_region_with (go_at_call 11; refine (HC.out).mono ?_; intro e w5 hp; obtain ⟨E0, n0, d0, E1, n1, d1, E2, n2, d2, E3, n3, d3, rfl, hv5, hb5⟩ := doOut hp; clear hp ho0 ho1 ho2 ho3 ho4 ho5 ho6 hs0 hs1 hs2 hs3 hs4; have XB5 := stay hb5 (show (World.drew wr).heap[q]? = _ from HX.out) (by rw [drewHeap]; exact HXL.out); obtain ⟨hz0, hz1, hz2, hz3, hz4⟩ := cells_5 XB5; obtain ⟨hy0, hy1, hy2, hy3, hy4⟩ := froz_5 XB5)
      · go_wp2
        go_roundg (l.length - (jj + 1))
        case measure => omega
        case rel => exact ⟨jj + 1, by omega, by omega, by go_num, ⟨put5_below (HBr.out.drew.trans (hb5.mono HBr.out.drew.size)) (by omega) _ _ _ _ _⟩, ⟨by rw [HST.out]; exact ShdAt.put XB5 hv5⟩, ⟨put5_other (b := w.heap.size) (g := q) (by omega) (stay hb5 (show (World.drew wr).heap[w.heap.size]? = _ from HTr.out) (by rw [drewHeap]; have := HXL.out; omega)) _ _ _ _ _⟩⟩
      · go_wp2
        go_roundg (l.length - (jj + 1))
        case measure => omega
        case rel => exact ⟨jj + 1, by omega, by omega, by go_num, ⟨put5_below (HBr.out.drew.trans (hb5.mono HBr.out.drew.size)) (by omega) _ _ _ _ _⟩, ⟨by rw [HST.out]; exact ShdAt.put XB5 hv5⟩, ⟨put5_other (b := w.heap.size) (g := q) (by omega) (stay hb5 (show (World.drew wr).heap[w.heap.size]? = _ from HTr.out) (by rw [drewHeap]; have := HXL.out; omega)) _ _ _ _ _⟩⟩
    · have hltz : ¬ (jj : Int) < (l.length : Int) := by omega
      obtain rfl : jj = l.length := by omega
      rw [List.take_length] at HXr
      have HI : Aside0 (InvS (runS emptyS l)) := ⟨runS_inv InvS.empty HOK.out⟩
      have hpl := aborts_plain HI.out ⟨ta, ti⟩ key
      obtain ⟨A0, m0, c0, A1, m1, c1, A2, m2, c2, A3, m3, c3, hX, hDO⟩ := do_at HXr.out
      obtain ⟨hs0, hs1, hs2, hs3, hs4⟩ := cells_5 hX
      have ht0 := cell_row (cs := [.int .u64 ta, .int .u64 ti]) HTr.out 0
      have ht1 := cell_row (cs := [.int .u64 ta, .int .u64 ti]) HTr.out 1
      have HC := Aside0.mk (hDO 4 ⟨ta, ti⟩ ⟨#[]⟩ none 0 0 false none 0 0 [] wr rfl (Kd.C_nil _ _) (Nat.le_refl _) HI.out.ok (Below.refl _ _))
      have HX := Aside0.mk hX
      have HXL := Aside0.mk HXr.out.lt
      clear hX hDO
      generalize runS emptyS l = S at *
      generalize doS S 4 ⟨ta, ti⟩ ⟨#[]⟩ [] false = R at *
      have HPL := Aside0.mk hpl
      clear hpl
      dsimp only at *
      go_upto_region 8 with (go_at_call 11; refine (HC.out).mono ?_; intro e w5 hp; obtain ⟨E0, n0, d0, E1, n1, d1, E2, n2, d2, E3, n3, d3, rfl, hv5, hb5⟩ := doOut hp; clear hp hs0 hs1 hs2 hs3 hs4 ht0 ht1; have HV5 := Aside0.mk hv5; have HBB5 := Aside0.mk hb5; clear hv5 hb5)
      have XS6 := Aside0.mk ((ShdAt.made HV5.out).below ((Below.refl _ _).alloc (Nat.le_refl _) (.cells #[.int .i64 R.2.err, .string R.2.val, .int .u64 R.2.ver, .bool R.2.found, .bool R.2.commit] 38)))
      have ha6 := heap_alloc_new (w5.alloc (.cells #[.slice E0 n0 d0, .slice E1 n1 d1, .slice E2 n2 d2, .slice E3 n3 d3, .int .u64 R.1.ver] 28)) (.cells #[.int .i64 R.2.err, .string R.2.val, .int .u64 R.2.ver, .bool R.2.found, .bool R.2.commit] 38)
      rw [World.size_alloc] at ha6
      have HA6 := Aside0.mk ha6
      have HT6 := Aside0.mk (stayA (stayA (stay HBB5.out HTr.out (by have := HXL.out; omega)) (.cells #[.slice E0 n0 d0, .slice E1 n1 d1, .slice E2 n2 d2, .slice E3 n3 d3, .int .u64 R.1.ver] 28)) (.cells #[.int .i64 R.2.err, .string R.2.val, .int .u64 R.2.ver, .bool R.2.found, .bool R.2.commit] 38))
      have XQ6 := Aside0.mk (((HXr.out.below HBB5.out).below ((Below.refl _ _).alloc (Nat.le_refl _) (.cells #[.slice E0 n0 d0, .slice E1 n1 d1, .slice E2 n2 d2, .slice E3 n3 d3, .int .u64 R.1.ver] 28))).below ((Below.refl _ _).alloc (Nat.le_refl _) (.cells #[.int .i64 R.2.err, .string R.2.val, .int .u64 R.2.ver, .bool R.2.found, .bool R.2.commit] 38)))
      have HB5 := HBr.out.trans (HBB5.out.mono HBr.out.size)
      have HB6 := Aside0.mk ((HB5.alloc HB5.size (.cells #[.slice E0 n0 d0, .slice E1 n1 d1, .slice E2 n2 d2, .slice E3 n3 d3, .int .u64 R.1.ver] 28)).alloc (by rw [World.size_alloc]; have := HB5.size; omega) (.cells #[.int .i64 R.2.err, .string R.2.val, .int .u64 R.2.ver, .bool R.2.found, .bool R.2.commit] 38))
      clear ha6 HB5 HX HC
      change Code.wp _ _ _ _ ((w5.alloc (.cells #[.slice E0 n0 d0, .slice E1 n1 d1, .slice E2 n2 d2, .slice E3 n3 d3, .int .u64 R.1.ver] 28)).alloc (.cells #[.int .i64 R.2.err, .string R.2.val, .int .u64 R.2.ver, .bool R.2.found, .bool R.2.commit] 38))
      generalize (w5.alloc (.cells #[.slice E0 n0 d0, .slice E1 n1 d1, .slice E2 n2 d2, .slice E3 n3 d3, .int .u64 R.1.ver] 28)).alloc (.cells #[.int .i64 R.2.err, .string R.2.val, .int .u64 R.2.ver, .bool R.2.found, .bool R.2.commit] 38) = W6 at *
      generalize w5.heap.size = q2 at *
      obtain ⟨ha0, ha1, ha2, ha3, ha4⟩ := cells_5 HA6.out
      rcases HPL.out with ⟨hp1, hp2⟩ | ⟨hp1, hp2, hp3, hp4, hp5⟩
      · clear HPL
        rw [hp2] at XS6
        obtain ⟨A0', n0', c0', A1', n1', c1', A2', n2', c2', A3', n3', c3', B0', m0', d0', B1', m1', d1', B2', m2', d2', B3', m3', d3', hX1, hX2, hCS⟩ := same13_calls XQ6.out XS6.out HI.out.ok
        have HCS := Aside0.mk (hCS W6 (Below.refl _ _))
        obtain ⟨hs0, hs1, hs2, hs3, hs4⟩ := cells_5 hX1
        obtain ⟨hu0, hu1, hu2, hu3, hu4⟩ := cells_5 hX2
        clear hCS hX1 hX2 hp2
        go_wp2_with (go_at_call 13; refine (HCS.out).mono ?_; rintro e w7 ⟨rfl, hb7⟩; have HBB7 := Aside0.mk hb7; clear hb7)
        go_ret
        exact ⟨rfl, HB6.out.trans (HBB7.out.mono HB6.out.size)⟩
      · clear HPL
        obtain ⟨A0', c0', A1', c1', A2', c2', A3', c3', hX1, ⟨ra, ra'⟩, _⟩ := XQ6.out
        obtain ⟨B0', e0, B1', e1, B2', e2, B3', e3, hX2, ⟨rb, rb'⟩, ⟨hb, hb'⟩, ⟨ob, ob'⟩, _⟩ := XS6.out
        rw [hp2, hp3] at hX2
        rw [hp2] at rb rb'
        rw [hp1] at ha0
        have hnr : S.rows.length < 9223372036854775806 := by have := HI.out.ok.rl; omega
        have HSM := Aside0.mk (same11_calls A0' c0' B0' e0 S.rows W6 ra ra' rb rb' hnr)
        have HHS := Aside0.mk (fun (W : World) (h : Below W6.heap.size W6 W) => has12_calls B1' e1 R.1.holds ⟨ta, ti⟩ key false W (Kd.C_below hb h) hb')
        rw [hp4] at HHS
        have HOB := Aside0.mk ob
        have HP5 := Aside0.mk hp5
        have hol : R.1.opens.length ≤ 9223372036854775807 := ob.2.1
        have HX1 := Aside0.mk hX1
        have HX2 := Aside0.mk hX2
        have H64 := Aside0.mk HI.out.n
        obtain ⟨hs0, hs1, hs2, hs3, hs4⟩ := cells_5 hX1
        obtain ⟨hu0, hu1, hu2, hu3, hu4⟩ := cells_5 hX2
        have ht0 := cell_row (cs := [.int .u64 ta, .int .u64 ti]) HT6.out 0
        have ht1 := cell_row (cs := [.int .u64 ta, .int .u64 ti]) HT6.out 1
        clear ra ra' rb rb' hb hb' ob ob' hX1 hX2 hp1 hp2 hp3 hp4 hp5 hnr
        dsimp only at *
        go_wp2_with (first
          | (go_at_call 17; refine (HSM.out).mono ?_; rintro e w7 ⟨rfl, hb7⟩; clear hs0 hs1 hs2 hs3 hs4 hu0 hu1 hu2 hu3 hu4 ha0 ha1 ha2 ha3 ha4 ht0 ht1; obtain ⟨hs0, hs1, hs2, hs3, hs4⟩ := cells_5 (stay hb7 HX1.out (Array.getElem?_eq_some_iff.1 HX1.out).1); obtain ⟨hu0, hu1, hu2, hu3, hu4⟩ := cells_5 (stay hb7 HX2.out (Array.getElem?_eq_some_iff.1 HX2.out).1); obtain ⟨ha0, ha1, ha2, ha3, ha4⟩ := cells_5 (stay hb7 HA6.out (Array.getElem?_eq_some_iff.1 HA6.out).1); have ht0 := cell_row (cs := [.int .u64 ta, .int .u64 ti]) (stay hb7 HT6.out (Array.getElem?_eq_some_iff.1 HT6.out).1) 0; have ht1 := cell_row (cs := [.int .u64 ta, .int .u64 ti]) (stay hb7 HT6.out (Array.getElem?_eq_some_iff.1 HT6.out).1) 1; have HB7 := Aside0.mk hb7; clear hb7)
          | (go_at_call 18; refine (HHS.out _ HB7.out).mono ?_; rintro e w8 ⟨rfl, hb8'⟩; have hb8 := HB7.out.trans (hb8'.mono HB7.out.size); clear hs0 hs1 hs2 hs3 hs4 hu0 hu1 hu2 hu3 hu4 ha0 ha1 ha2 ha3 ha4 ht0 ht1; obtain ⟨hs0, hs1, hs2, hs3, hs4⟩ := cells_5 (stay hb8 HX1.out (Array.getElem?_eq_some_iff.1 HX1.out).1); obtain ⟨hu0, hu1, hu2, hu3, hu4⟩ := cells_5 (stay hb8 HX2.out (Array.getElem?_eq_some_iff.1 HX2.out).1); obtain ⟨ha0, ha1, ha2, ha3, ha4⟩ := cells_5 (stay hb8 HA6.out (Array.getElem?_eq_some_iff.1 HA6.out).1); have HB8 := Aside0.mk hb8; clear hb8 hb8'))
        clear hs0 hs1 hs2 hs3 hs4 hu0 hu1 hu2 hu3 hu4 ha0 ha1 ha2 ha3 ha4
        go_loopg [15] R.1.opens.length (fun gg s15 wv => ∃ kk : Nat, kk ≤ R.1.opens.length ∧ R.1.opens.length - kk ≤ gg ∧ s15 = .int .i64 kk ∧ Aside0 (Below W6.heap.size W6 wv))
        case atStart => exact ⟨0, Nat.zero_le _, by omega, rfl, HB8⟩
        case round =>
          obtain ⟨kk, hkk, hgk2, rfl, HBv⟩ := hrel
          have hu2 := (cells_5 (stay HBv.out HX2.out (Array.getElem?_eq_some_iff.1 HX2.out).1)).2.2.1
          by_cases hlt2 : kk < R.1.opens.length
          · have hltz2 : (kk : Int) < (R.1.opens.length : Int) := by omega
            have hkz : (0 : Int) ≤ (kk : Int) := by omega
            obtain ⟨rb, ro, rfl, _, _, _, _, hx0, hx1, _⟩ := openRow (Kd.C_below HOB.out HBv.out) kk hlt2
            have ht0 := cell_row (cs := [.int .u64 ta, .int .u64 ti]) (stay HBv.out HT6.out (Array.getElem?_eq_some_iff.1 HT6.out).1) 0
            have ht1 := cell_row (cs := [.int .u64 ta, .int .u64 ti]) (stay HBv.out HT6.out (Array.getElem?_eq_some_iff.1 HT6.out).1) 1
            have hne := same_false.1 (HP5.out _ (bang_mem hlt2))
            generalize R.1.opens[kk]! = y at *
            obtain ⟨⟨ya, yi⟩, yf, yw, yp⟩ := y
            dsimp only at *
            by_cases e1 : ya = ta
            · subst e1
              have e2 : ¬ yi = ti := fun e => hne (by rw [e])
              clear hne
              go_wp2
              go_quiet (fail)
              go_wp2
              go_roundg (R.1.opens.length - (kk + 1))
              case measure => omega
              case rel => exact ⟨kk + 1, by omega, by omega, by go_num, ⟨pw_below_drewN HBv.out _⟩⟩
            · clear hne
              go_wp2
              go_quiet (fail)
              go_wp2
              go_roundg (R.1.opens.length - (kk + 1))
              case measure => omega
              case rel => exact ⟨kk + 1, by omega, by omega, by go_num, ⟨pw_below_drewN HBv.out _⟩⟩
          · have hltz2 : ¬ (kk : Int) < (R.1.opens.length : Int) := by omega
            go_wp2
            go_ret
            exact ⟨rfl, HB6.out.trans (HBv.out.mono HB6.out.size)⟩
end Go.Proofs.Ytmcgcdpiceikeaa.PAll
end
section
namespace Go.Proofs.Ytmcgcdpiceikeaa.shardAborts
open Go.ChangeShapes Go.WideShapes Go.ChangeAt Go.RowKit Go.Proofs.YtmcgcdpiceikeaaW.PrintWords Go.Proofs.Ytmcgcdpiceikeaa Go.Proofs.Ytmcgcdpiceikeaa.PAll
open Go.ChangeMaps (open_string shut_string)
set_option linter.unusedVariables false
set_option linter.unusedSimpArgs false
theorem own : ownKnob Try.prog.godebug = none := by kernel_rfl
theorem laidOut : laidOutB Try.prog = true := by kernel_rfl
set_option maxRecDepth 100000 in
theorem lifted (os : Os) (started : os.Started) (H : Type) (enc : TypeId × Value → H) :
    ReturnsInHanded {} Try.checked os 7 .any (Rows.shardAbortsSpec.pre6 enc Try.prog Try.f7 Rows.shardAbortsRow.domain false) (Rows.shardAbortsSpec.post enc Try.prog Try.f7 false true false false) := by
  refine returnsInHanded_of_change_sized (C := Try.checked) own started (by kernel_rfl) Try.func7
    (ChangeSpec.witness6 (enc := enc) (C := Try.checked) false ⟨#[], #[.slice none 0 0, .agg #[.int .u64 0, .int .u64 0], .string ByteArray.empty], []⟩ 8 (by kernel_rfl) (by kernel_rfl) (by kernel_rfl) (by kernel_rfl)) ?_
  intro W base args ds gs before hval0 hW hcnd hsz0 _
  have hsz : (DataW.weightsEach Try.prog (Try.f7.params.toList ++ Rows.shardAbortsSpec.plain.varTypes Try.prog) (ds ++ gs)).all (· ≤ reachBytes) = true := hsz0
  have hval : ∀ (j : Nat) t v, Try.f7.params[j]? = some t → args[j]? = some v → Value.okWide Try.prog W .any base t v := hval0
  have hW' := hW
  obtain ⟨p, q, hA0, hV, rfl, hfz, hnd⟩ := hW
  have hA : DataW.TrodAll enc Try.prog W 0 (fun _ => true) true Try.f7.params.toList args.toList ds p := hA0
  rw [Try.params7] at hA hval hsz
  obtain ⟨v0, vs0, d0, ds0, p0, q0, hargs, rfl, rfl, h0, r0⟩ := trodAll_cons hA
  obtain ⟨v1, vs1, d1, ds1, p1, q1, rfl, rfl, rfl, h1, r1⟩ := trodAll_cons r0
  obtain ⟨v2, vs2, d2, ds2, p2, q2, rfl, rfl, rfl, h2, r2⟩ := trodAll_cons r1
  obtain ⟨rfl, rfl, rfl⟩ := trodAll_nil r2
  obtain rfl : args = #[v0, v1, v2] := by cases args; simp_all
  obtain ⟨rfl, rfl⟩ := trodVars_none hV
  have hw0 := weights_of 0 hsz (t := 43) (d := d0) rfl rfl
  obtain ⟨a0, len0, cap0, rfl⟩ := okWide_slice Try.underlying43 (hval 0 43 v0 rfl rfl)
  have k0 := h0
  have lt0 : ∀ x ∈ p0, x.block < W.heap.size := by obtain ⟨m, hm⟩ := k0; exact DataW.trod_lt m _ _ _ hm
  obtain ⟨l0, hl0, hr0, hc0, hs0⟩ : ∃ l, len0 = l.length ∧ Kd.C k34 W a0 l.length l ∧ l.length ≤ cap0 ∧ (fun l => l.length * Try.prog.bytesOf 34 ≤ 140737488351232 ∧ ∀ x ∈ l, ok34 x) l := by
    obtain ⟨fuel, hf⟩ := h0
    obtain ⟨l, ⟨A, c, hv, hc, hr⟩, hS⟩ := (Opens.slice Try.underlying43 (by kernel_rfl) opens34) H enc W 0 _ _ fuel _ _ _ hf hw0
    simp [Value.cells] at hv
    obtain ⟨rfl, rfl, rfl⟩ := hv
    exact ⟨l, rfl, hr, hc, hS⟩
  subst hl0
  have hw1 := weights_of 1 hsz (t := 30) (d := d1) rfl rfl
  have k1 := h1
  have lt1 : ∀ x ∈ p1, x.block < W.heap.size := by obtain ⟨m, hm⟩ := k1; exact DataW.trod_lt m _ _ _ hm
  obtain ⟨cs1, rfl, hcz1⟩ := okWide_struct Try.underlying30 (hval 1 30 v1 rfl rfl)
  obtain ⟨x1, hx1, hs1⟩ : ∃ x, k30.K W x cs1.toList ∧ ok30 x := by
    obtain ⟨fuel, hf⟩ := h1
    exact opens30 H enc W 0 _ _ fuel _ _ _ hf hw1
  have hw2 := weights_of 2 hsz (t := 9) (d := d2) rfl rfl
  obtain ⟨a2, rfl, rfl, rfl, y2⟩ := open_string Try.underlying9 (hval 2 9 v2 rfl rfl) h2
  have w2 : a2.size ≤ 140737488351232 := by
    have z := hw2 a2.data.toList.length (by simp [DataW.weights])
    rw [Array.length_toList] at z
    exact z
  clear hA0 hval0 hsz0 hsz
  refine (ShardAborts_walk (w := W) a0 cap0 l0 hr0 hc0 hs0 cs1 x1 hx1 hs1 a2 w2).mono fun e W' ⟨he, bel⟩ => ?_
  subst he
  exact ⟨_, rfl, _, _, _, [], _, [], hW', trodAll_mk1 (shut_bool Try.underlying4 _), (trodAll_cons_mk (Below.trod laidOut (by kernel_rfl) (of_decide_eq_true (by kernel_rfl)) k0 bel lt0) (trodAll_cons_mk (Below.trod laidOut (by kernel_rfl) (of_decide_eq_true (by kernel_rfl)) k1 bel lt1) (trodAll_cons_mk (shut_string Try.underlying9 y2) trodAll_mk0))), rfl, bel.frame _, fun h => by cases h⟩
theorem over : Rows.shardAbortsRow.holds Try.pinned (OpenSpec.ofChange Rows.shardAbortsSpec) :=
  OpenClaim.holds_of_wide 7 Try.f7 rfl rfl rfl rfl rfl rfl rfl ⟨rfl, rfl, rfl, rfl, rfl⟩ rfl rfl rfl rfl rfl (by kernel_rfl) Try.func7 (by kernel_rfl)
    (of_decide_eq_true (by kernel_rfl)) (by unfold Func.isWrapper; first | (rw [if_pos (by decide +kernel)]; kernel_rfl) | (rw [if_neg (by decide +kernel)]; exact ⟨rfl, rfl⟩))
    (fun os started H enc _ => lifted os started H enc)
theorem proved : Rows.ShardAbortsSaid := over
#print axioms proved
end Go.Proofs.Ytmcgcdpiceikeaa.shardAborts
namespace Go.Proofs.Ytmcgcdpiceikeaa
/-- The row, under a short name, for the claim. -/
theorem shardAborts_holds : Rows.ShardAbortsSaid := shardAborts.proved
end Go.Proofs.Ytmcgcdpiceikeaa
end
