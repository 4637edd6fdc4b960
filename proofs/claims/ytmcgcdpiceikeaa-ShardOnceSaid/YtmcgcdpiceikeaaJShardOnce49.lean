/- Joined texts of the claim ShardOnce (part 49): contracts of functions and plain laws. -/
import Derived.Test.YtmcgcdpiceikeaaJShardOnce48
import Derived.BigRegion
import Derived.Outline
import Derived.Test.YtmcgcdpiceikeaaJShardOnce12
import Derived.Test.YtmcgcdpiceikeaaJShardOnce17
section
/- A shard that lies in a box; orders that are read. -/
namespace Go.Proofs.Ytmcgcdpiceikeaa.PAll
open Go.RowKit Go.Proofs.YtmcgcdpiceikeaaW.PrintWords Go.Proofs.YtmcgcdpiceikeaaW.PrintMore Go.Proofs.Ytmcgcdpiceikeaa
set_option linter.unusedVariables false
structure S34 where
  f0 : Int
  f1 : S30
  f2 : ByteArray
  f3 : (List S54)
  f4 : Bool
  f5 : (List Int)
def k34 : Kd S34 := Kd.iso (Kd.pair (Kd.int .i64) (Kd.pair k30 (Kd.pair Kd.string (Kd.pair (Kd.slice 54 k54) (Kd.pair Kd.bool (Kd.slice 26 (Kd.int .u64))))))) (fun x : S34 => (x.f0, x.f1, x.f2, x.f3, x.f4, x.f5))
/-- Shard s lies in block q. -/
def ShdAt (w : World) (q : Nat) (s : Shd) : Prop := ∃ A0 c0 A1 c1 A2 c2 A3 c3, w.heap[q]? = some (.cells #[.slice A0 s.rows.length c0, .slice A1 s.holds.length c1, .slice A2 s.opens.length c2, .slice A3 s.dones.length c3, .int .u64 s.ver] 28 (0, 0)) ∧ (Kd.C k50 w A0 s.rows.length s.rows ∧ s.rows.length ≤ c0) ∧ (Kd.C k75 w A1 s.holds.length s.holds ∧ s.holds.length ≤ c1) ∧ (Kd.C k48 w A2 s.opens.length s.opens ∧ s.opens.length ≤ c2) ∧ (Kd.C k68 w A3 s.dones.length s.dones ∧ s.dones.length ≤ c3)
theorem ShdAt.lt {w : World} {q : Nat} {s : Shd} (h : ShdAt w q s) : q < w.heap.size := by
  obtain ⟨_, _, _, _, _, _, _, _, h, _⟩ := h
  exact (Array.getElem?_eq_some_iff.1 h).1
theorem ShdAt.below {w w' : World} {q : Nat} {s : Shd} (h : ShdAt w q s) (hb : Below w.heap.size w w') : ShdAt w' q s := by
  have hl := h.lt
  obtain ⟨A0, c0, A1, c1, A2, c2, A3, c3, h, ⟨a, a'⟩, ⟨b, b'⟩, ⟨c, c'⟩, ⟨d, d'⟩⟩ := h
  exact ⟨A0, c0, A1, c1, A2, c2, A3, c3, (hb.block q hl).trans h, ⟨Kd.C_below a hb, a'⟩, ⟨Kd.C_below b hb, b'⟩, ⟨Kd.C_below c hb, c'⟩, ⟨Kd.C_below d hb, d'⟩⟩
theorem ShdAt.of {w : World} {q : Nat} {s : Shd} {A0 A1 A2 A3 : Option Addr} {n0 c0 n1 c1 n2 c2 n3 c3 : Nat} (h : w.heap[q]? = some (.cells #[.slice A0 n0 c0, .slice A1 n1 c1, .slice A2 n2 c2, .slice A3 n3 c3, .int .u64 s.ver] 28 (0, 0))) (hv : ShdV w (.agg #[.slice A0 n0 c0, .slice A1 n1 c1, .slice A2 n2 c2, .slice A3 n3 c3, .int .u64 s.ver]) s) : ShdAt w q s := by
  obtain ⟨v0, v1, v2, v3, e, ⟨B0, d0, rfl, a', a⟩, ⟨B1, d1, rfl, b', b⟩, ⟨B2, d2, rfl, c', c⟩, ⟨B3, d3, rfl, d', d⟩⟩ := hv
  simp only [Value.agg.injEq, Array.mk.injEq, List.cons.injEq, Value.slice.injEq, and_true] at e
  obtain ⟨⟨rfl, rfl, rfl⟩, ⟨rfl, rfl, rfl⟩, ⟨rfl, rfl, rfl⟩, ⟨rfl, rfl, rfl⟩⟩ := e
  exact ⟨_, _, _, _, _, _, _, _, h, ⟨a, a'⟩, ⟨b, b'⟩, ⟨c, c'⟩, ⟨d, d'⟩⟩
theorem ShdAt.made {w : World} {s : Shd} {A0 A1 A2 A3 : Option Addr} {n0 c0 n1 c1 n2 c2 n3 c3 : Nat} (hv : ShdV w (.agg #[.slice A0 n0 c0, .slice A1 n1 c1, .slice A2 n2 c2, .slice A3 n3 c3, .int .u64 s.ver]) s) : ShdAt (w.alloc (.cells #[.slice A0 n0 c0, .slice A1 n1 c1, .slice A2 n2 c2, .slice A3 n3 c3, .int .u64 s.ver] 28)) w.heap.size s :=
  ShdAt.of (heap_alloc_new w _) (hv.below ((Below.refl _ _).alloc (Nat.le_refl _) _))
theorem ShdAt.put {w : World} {q : Nat} {s : Shd} {B0 B1 B2 B3 : Option Addr} {m0 d0 m1 d1 m2 d2 m3 d3 : Nat} {u : Int} {A0 A1 A2 A3 : Option Addr} {n0 c0 n1 c1 n2 c2 n3 c3 : Nat} (h : w.heap[q]? = some (.cells #[.slice B0 m0 d0, .slice B1 m1 d1, .slice B2 m2 d2, .slice B3 m3 d3, .int .u64 u] 28 (0, 0))) (hv : ShdV w (.agg #[.slice A0 n0 c0, .slice A1 n1 c1, .slice A2 n2 c2, .slice A3 n3 c3, .int .u64 s.ver]) s) :
    ShdAt (put5 w q (.slice A0 n0 c0) (.slice A1 n1 c1) (.slice A2 n2 c2) (.slice A3 n3 c3) (.int .u64 s.ver)) q s :=
  ShdAt.of (put5_at h _ _ _ _ _) (hv.grown (noRow_z h) (put5_grown w q _ _ _ _ _))
/-- A shard in a box, and what an order makes of it. -/
theorem do_at {W : World} {q : Nat} {s : Shd} (h : ShdAt W q s) : ∃ (A0 : Option Addr) (n0 c0 : Nat) (A1 : Option Addr) (n1 c1 : Nat) (A2 : Option Addr) (n2 c2 : Nat) (A3 : Option Addr) (n3 c3 : Nat), W.heap[q]? = some (.cells #[.slice A0 n0 c0, .slice A1 n1 c1, .slice A2 n2 c2, .slice A3 n3 c3, .int .u64 s.ver] 28 (0, 0)) ∧
    ∀ (kind : Int) (t : S30) (key : ByteArray) (A4 : Option Addr) (n4 c4 : Nat) (cm : Bool) (A5 : Option Addr) (n5 c5 : Nat) (ps : List S54) (W' : World), n4 = ps.length → Kd.C k54 W' A4 ps.length ps → ps.length ≤ c4 → ShdOk s → Below W.heap.size W W' →
      Calls Try.prog 11 #[.agg #[.slice A0 n0 c0, .slice A1 n1 c1, .slice A2 n2 c2, .slice A3 n3 c3, .int .u64 s.ver], .agg #[.int .i64 kind, .int .u64 t.f0, .int .u64 t.f1, .string key, .slice A4 n4 c4, .bool cm, .slice A5 n5 c5]] W' (DoPost W' (doS s kind t key ps cm)) := by
  obtain ⟨A0, c0, A1, c1, A2, c2, A3, c3, h, ⟨a, a'⟩, ⟨b, b'⟩, ⟨c, c'⟩, ⟨d, d'⟩⟩ := h
  refine ⟨A0, _, c0, A1, _, c1, A2, _, c2, A3, _, c3, h, fun kind t key A4 n4 c4 cm A5 n5 c5 ps W' hn hr hc hok hb => ?_⟩
  subst hn
  exact do_calls kind t key A4 c4 cm A5 n5 c5 A0 c0 A1 c1 A2 c2 A3 c3 s.rows s.holds s.opens s.dones s.ver W' (Kd.C_below a hb) a' (Kd.C_below b hb) b' (Kd.C_below c hb) c' (Kd.C_below d hb) d' ps hr hc hok
theorem do_nil (kind : Int) (t : S30) (key : ByteArray) (A4 : Option Addr) (n4 c4 : Nat) (cm : Bool) (A5 : Option Addr) (n5 c5 : Nat) (ps : List S54) (W' : World) (hn : n4 = ps.length) (hr : Kd.C k54 W' A4 ps.length ps) (hc : ps.length ≤ c4) :
    Calls Try.prog 11 #[.agg #[.slice none 0 0, .slice none 0 0, .slice none 0 0, .slice none 0 0, .int .u64 0], .agg #[.int .i64 kind, .int .u64 t.f0, .int .u64 t.f1, .string key, .slice A4 n4 c4, .bool cm, .slice A5 n5 c5]] W' (DoPost W' (doS ⟨[], [], [], [], 0⟩ kind t key ps cm)) := by
  subst hn
  exact do_calls kind t key A4 c4 cm A5 n5 c5 none 0 none 0 none 0 none 0 [] [] [] [] 0 W' (Kd.C_nil _ _) (Nat.le_refl _) (Kd.C_nil _ _) (Nat.le_refl _) (Kd.C_nil _ _) (Nat.le_refl _) (Kd.C_nil _ _) (Nat.le_refl _) ps hr hc InvS.empty.ok
end Go.Proofs.Ytmcgcdpiceikeaa.PAll
end
section
/- The document's example of chapter 13 holds, whenever it is asked. -/
namespace Go.Proofs.Ytmcgcdpiceikeaa.PAll
open Go.RowKit Go.Proofs.YtmcgcdpiceikeaaW.PrintWords Go.Proofs.YtmcgcdpiceikeaaW.PrintMore Go.Proofs.Ytmcgcdpiceikeaa
set_option linter.unusedVariables false
theorem okExT : okTx exT := ⟨⟨by decide, by decide⟩, by decide, by decide⟩
theorem inv1 : InvS ex1.1 := (InvS.empty.doS 2 okExT ⟨#[97]⟩ [] false).1
theorem inv2 : InvS ex2.1 := (inv1.doS 3 okExT ⟨#[]⟩ exP false).1
theorem inv3 : InvS ex3.1 := (inv2.doS 4 okExT ⟨#[]⟩ [] true).1
theorem C_put1 {W : World} {b t : Nat} {p : S54} (h : W.heap[b]? = some (.cells (enc54 p).toArray t (0, 0))) : Kd.C k54 W (some ⟨b, 0, none⟩) 1 [p] := by
  refine ⟨rfl, by decide, fun _ => ⟨_, rfl, fun j q hj => ⟨enc54 q, rfl, flat54.kk _ _, fun i u hu => ?_⟩⟩⟩
  have hj1 : j < 1 := (List.getElem?_eq_some_iff.1 hj).1
  obtain rfl : j = 0 := by omega
  obtain rfl : p = q := by simpa using hj
  rw [Addr.add_lit, cell_row h, Nat.zero_mul, Nat.zero_add, Nat.zero_add]
  exact hu
set_option maxHeartbeats 4000000 in
set_option maxRecDepth 100000 in
theorem shown13 (w : World) : Calls Try.prog 10 #[] w fun e w' => e = .returned (.bool true) ∧ Below w.heap.size w w' := by
  have HT0 := Aside0.mk (stayA (heap_alloc_new w (.cells #[.int .u64 1, .int .u64 0] 30)) (.cells #[.string ⟨#[97]⟩, .string ⟨#[49]⟩, .bool false] 54))
  have hp0 := heap_alloc_new (w.alloc (.cells #[.int .u64 1, .int .u64 0] 30)) (.cells #[.string ⟨#[97]⟩, .string ⟨#[49]⟩, .bool false] 54)
  rw [World.size_alloc] at hp0
  have HP0 := Aside0.mk hp0
  have HB0 := Aside0.mk (((Below.refl w.heap.size w).alloc (Nat.le_refl _) (.cells #[.int .u64 1, .int .u64 0] 30)).alloc (by simp) (.cells #[.string ⟨#[97]⟩, .string ⟨#[49]⟩, .bool false] 54))
  have HS0 : Aside0 (w.heap.size + 1 + 1 ≤ ((w.alloc (.cells #[.int .u64 1, .int .u64 0] 30)).alloc (.cells #[.string ⟨#[97]⟩, .string ⟨#[49]⟩, .bool false] 54)).heap.size) := ⟨by simp⟩
  clear hp0
  go_enter Try.func10, Try.ntmps10
  go_upto_region 3 with (fail)
  generalize (w.alloc (.cells #[.int .u64 1, .int .u64 0] 30)).alloc (.cells #[.string ⟨#[97]⟩, .string ⟨#[49]⟩, .bool false] 54) = W0 at *
  have ht0 := cell_row (cs := [.int .u64 1, .int .u64 0]) HT0.out 0
  have ht1 := cell_row (cs := [.int .u64 1, .int .u64 0]) HT0.out 1
  go_upto_region 4 with (go_at_call 11; refine (do_nil 2 exT ⟨#[97]⟩ none 0 0 false none 0 0 [] W0 rfl (Kd.C_nil _ _) (Nat.le_refl _)).mono ?_; intro e w3 hp; obtain ⟨E0, n0, d0, E1, n1, d1, E2, n2, d2, E3, n3, d3, rfl, hv3, hb3⟩ := doOut (r := ex1) hp; clear hp ht0 ht1; have HV3 := Aside0.mk hv3; have HBB3 := Aside0.mk hb3; clear hv3 hb3)
  have XS4 := Aside0.mk ((ShdAt.made HV3.out).below ((Below.refl _ _).alloc (Nat.le_refl _) (.cells #[.int .i64 ex1.2.err, .string ex1.2.val, .int .u64 ex1.2.ver, .bool ex1.2.found, .bool ex1.2.commit] 38)))
  have ha4 := heap_alloc_new (w3.alloc (.cells #[.slice E0 n0 d0, .slice E1 n1 d1, .slice E2 n2 d2, .slice E3 n3 d3, .int .u64 ex1.1.ver] 28)) (.cells #[.int .i64 ex1.2.err, .string ex1.2.val, .int .u64 ex1.2.ver, .bool ex1.2.found, .bool ex1.2.commit] 38)
  rw [World.size_alloc] at ha4
  have HA4 := Aside0.mk ha4
  have HT4 := Aside0.mk (stayA (stayA (stay HBB3.out HT0.out (by have := HS0.out; omega)) (.cells #[.slice E0 n0 d0, .slice E1 n1 d1, .slice E2 n2 d2, .slice E3 n3 d3, .int .u64 ex1.1.ver] 28)) (.cells #[.int .i64 ex1.2.err, .string ex1.2.val, .int .u64 ex1.2.ver, .bool ex1.2.found, .bool ex1.2.commit] 38))
  have HP4 := Aside0.mk (stayA (stayA (stay HBB3.out HP0.out (by have := HS0.out; omega)) (.cells #[.slice E0 n0 d0, .slice E1 n1 d1, .slice E2 n2 d2, .slice E3 n3 d3, .int .u64 ex1.1.ver] 28)) (.cells #[.int .i64 ex1.2.err, .string ex1.2.val, .int .u64 ex1.2.ver, .bool ex1.2.found, .bool ex1.2.commit] 38))
  have HB3 := Aside0.mk (HB0.out.trans (HBB3.out.mono HB0.out.size))
  have HB4 := Aside0.mk ((HB3.out.alloc HB3.out.size (.cells #[.slice E0 n0 d0, .slice E1 n1 d1, .slice E2 n2 d2, .slice E3 n3 d3, .int .u64 ex1.1.ver] 28)).alloc (by rw [World.size_alloc]; have := HB3.out.size; omega) (.cells #[.int .i64 ex1.2.err, .string ex1.2.val, .int .u64 ex1.2.ver, .bool ex1.2.found, .bool ex1.2.commit] 38))
  have HQ4 : Aside0 (w3.heap.size + 1 + 1 ≤ ((w3.alloc (.cells #[.slice E0 n0 d0, .slice E1 n1 d1, .slice E2 n2 d2, .slice E3 n3 d3, .int .u64 ex1.1.ver] 28)).alloc (.cells #[.int .i64 ex1.2.err, .string ex1.2.val, .int .u64 ex1.2.ver, .bool ex1.2.found, .bool ex1.2.commit] 38)).heap.size) := ⟨by simp⟩
  have HQ4B : Aside0 (w.heap.size + 1 + 1 ≤ w3.heap.size) := ⟨Nat.le_trans HS0.out HBB3.out.size⟩
  have hq : w.heap.size + 1 + 1 ≤ w3.heap.size := Nat.le_trans HS0.out HBB3.out.size
  clear ha4 HV3 HBB3 HB3
  change Code.wp _ _ _ _ ((w3.alloc (.cells #[.slice E0 n0 d0, .slice E1 n1 d1, .slice E2 n2 d2, .slice E3 n3 d3, .int .u64 ex1.1.ver] 28)).alloc (.cells #[.int .i64 ex1.2.err, .string ex1.2.val, .int .u64 ex1.2.ver, .bool ex1.2.found, .bool ex1.2.commit] 38))
  generalize (w3.alloc (.cells #[.slice E0 n0 d0, .slice E1 n1 d1, .slice E2 n2 d2, .slice E3 n3 d3, .int .u64 ex1.1.ver] 28)).alloc (.cells #[.int .i64 ex1.2.err, .string ex1.2.val, .int .u64 ex1.2.ver, .bool ex1.2.found, .bool ex1.2.commit] 38) = W4 at *
  generalize w3.heap.size = q at *
  obtain ⟨A0, m0, c0, A1, m1, c1, A2, m2, c2, A3, m3, c3, hX, hDO⟩ := do_at XS4.out
  have HX4 := Aside0.mk hX
  have HDO := Aside0.mk hDO
  obtain ⟨hs0, hs1, hs2, hs3, hs4⟩ := cells_5 hX
  have ht0 := cell_row (cs := [.int .u64 1, .int .u64 0]) HT4.out 0
  have ht1 := cell_row (cs := [.int .u64 1, .int .u64 0]) HT4.out 1
  clear hX hDO
  go_upto_region 5 with (go_at_call 11; refine (HDO.out 3 exT ⟨#[]⟩ (some ⟨w.heap.size + 1, 0, none⟩) 1 1 false none 0 0 exP W4 rfl (C_put1 (p := ⟨⟨#[97]⟩, ⟨#[49]⟩, false⟩) HP4.out) (Nat.le_refl _) inv1.ok (Below.refl _ _)).mono ?_; intro e w5 hp; obtain ⟨E0'', n0'', d0'', E1'', n1'', d1'', E2'', n2'', d2'', E3'', n3'', d3'', rfl, hv5, hb5⟩ := doOut (r := ex2) hp; clear hp ht0 ht1 hs0 hs1 hs2 hs3 hs4; have HV5 := Aside0.mk hv5; have XB5 := Aside0.mk (stay hb5 HX4.out (by have := HQ4.out; omega)); obtain ⟨hz0, hz1, hz2, hz3, hz4⟩ := cells_5 XB5.out; obtain ⟨hy0, hy1, hy2, hy3, hy4⟩ := froz_5 XB5.out; have hq5 : q < w5.heap.size := (by have := HQ4.out; have := hb5.size; omega); have HBB5 := Aside0.mk hb5; clear hv5 hb5)
  have XS6 := Aside0.mk ((ShdAt.put XB5.out HV5.out).below ((Below.refl _ _).alloc (Nat.le_refl _) (.cells #[.int .i64 ex2.2.err, .string ex2.2.val, .int .u64 ex2.2.ver, .bool ex2.2.found, .bool ex2.2.commit] 38)))
  have hpz : (put5 w5 q (.slice E0'' n0'' d0'') (.slice E1'' n1'' d1'') (.slice E2'' n2'' d2'') (.slice E3'' n3'' d3'') (.int .u64 ex2.1.ver)).heap.size = w5.heap.size := by simp [put5, World.setCell]
  have HT6 := Aside0.mk (stayA (put5_other (b := w.heap.size) (g := q) (by have := HQ4B.out; omega) (stay HBB5.out HT4.out (by have := HQ4.out; have := HQ4B.out; omega)) (.slice E0'' n0'' d0'') (.slice E1'' n1'' d1'') (.slice E2'' n2'' d2'') (.slice E3'' n3'' d3'') (.int .u64 ex2.1.ver)) (.cells #[.int .i64 ex2.2.err, .string ex2.2.val, .int .u64 ex2.2.ver, .bool ex2.2.found, .bool ex2.2.commit] 38))
  have HA6 := Aside0.mk (stayA (put5_other (b := q + 1) (g := q) (by have := HQ4B.out; omega) (stay HBB5.out HA4.out (by have := HQ4.out; have := HQ4B.out; omega)) (.slice E0'' n0'' d0'') (.slice E1'' n1'' d1'') (.slice E2'' n2'' d2'') (.slice E3'' n3'' d3'') (.int .u64 ex2.1.ver)) (.cells #[.int .i64 ex2.2.err, .string ex2.2.val, .int .u64 ex2.2.ver, .bool ex2.2.found, .bool ex2.2.commit] 38))
  have ha6 := heap_alloc_new (put5 w5 q (.slice E0'' n0'' d0'') (.slice E1'' n1'' d1'') (.slice E2'' n2'' d2'') (.slice E3'' n3'' d3'') (.int .u64 ex2.1.ver)) (.cells #[.int .i64 ex2.2.err, .string ex2.2.val, .int .u64 ex2.2.ver, .bool ex2.2.found, .bool ex2.2.commit] 38)
  rw [hpz] at ha6
  have HAB6 := Aside0.mk ha6
  have HB6 : Aside0 (Below w.heap.size w ((put5 w5 q (.slice E0'' n0'' d0'') (.slice E1'' n1'' d1'') (.slice E2'' n2'' d2'') (.slice E3'' n3'' d3'') (.int .u64 ex2.1.ver)).alloc (.cells #[.int .i64 ex2.2.err, .string ex2.2.val, .int .u64 ex2.2.ver, .bool ex2.2.found, .bool ex2.2.commit] 38))) := ⟨(put5_below (HB4.out.trans (HBB5.out.mono HB4.out.size)) (by omega) _ _ _ _ _).alloc (by rw [hpz]; have := HB4.out.size; have := HBB5.out.size; omega) _⟩
  have HQ6 : Aside0 (q + 1 + 1 ≤ ((put5 w5 q (.slice E0'' n0'' d0'') (.slice E1'' n1'' d1'') (.slice E2'' n2'' d2'') (.slice E3'' n3'' d3'') (.int .u64 ex2.1.ver)).alloc (.cells #[.int .i64 ex2.2.err, .string ex2.2.val, .int .u64 ex2.2.ver, .bool ex2.2.found, .bool ex2.2.commit] 38)).heap.size ∧ w5.heap.size < ((put5 w5 q (.slice E0'' n0'' d0'') (.slice E1'' n1'' d1'') (.slice E2'' n2'' d2'') (.slice E3'' n3'' d3'') (.int .u64 ex2.1.ver)).alloc (.cells #[.int .i64 ex2.2.err, .string ex2.2.val, .int .u64 ex2.2.ver, .bool ex2.2.found, .bool ex2.2.commit] 38)).heap.size) := ⟨by rw [World.size_alloc, hpz]; have := HQ4.out; have := HBB5.out.size; omega⟩
  have hb5q : q + 1 + 1 ≤ w5.heap.size := by have := HQ4.out; have := HBB5.out.size; omega
  clear ha6 hpz HV5 HBB5 hz0 hz1 hz2 hz3 hz4 hy0 hy1 hy2 hy3 hy4 hq5
  change Code.wp _ _ _ _ ((put5 w5 q (.slice E0'' n0'' d0'') (.slice E1'' n1'' d1'') (.slice E2'' n2'' d2'') (.slice E3'' n3'' d3'') (.int .u64 ex2.1.ver)).alloc (.cells #[.int .i64 ex2.2.err, .string ex2.2.val, .int .u64 ex2.2.ver, .bool ex2.2.found, .bool ex2.2.commit] 38))
  generalize (put5 w5 q (.slice E0'' n0'' d0'') (.slice E1'' n1'' d1'') (.slice E2'' n2'' d2'') (.slice E3'' n3'' d3'') (.int .u64 ex2.1.ver)).alloc (.cells #[.int .i64 ex2.2.err, .string ex2.2.val, .int .u64 ex2.2.ver, .bool ex2.2.found, .bool ex2.2.commit] 38) = W6 at *
  generalize w5.heap.size = b2 at *
  obtain ⟨A0, m0, c0, A1, m1, c1, A2, m2, c2, A3, m3, c3, hX, hDO⟩ := do_at XS6.out
  have HX6 := Aside0.mk hX
  have HDO := Aside0.mk hDO
  obtain ⟨hs0, hs1, hs2, hs3, hs4⟩ := cells_5 hX
  have ht0 := cell_row (cs := [.int .u64 1, .int .u64 0]) HT6.out 0
  have ht1 := cell_row (cs := [.int .u64 1, .int .u64 0]) HT6.out 1
  clear hX hDO
  go_upto_region 6 with (go_at_call 11; refine (HDO.out 4 exT ⟨#[]⟩ none 0 0 true none 0 0 [] W6 rfl (Kd.C_nil _ _) (Nat.le_refl _) inv2.ok (Below.refl _ _)).mono ?_; intro e w7 hp; obtain ⟨E0''', n0''', d0''', E1''', n1''', d1''', E2''', n2''', d2''', E3''', n3''', d3''', rfl, hv7, hb7⟩ := doOut (r := ex3) hp; clear hp ht0 ht1 hs0 hs1 hs2 hs3 hs4; have HV7 := Aside0.mk hv7; have XB7 := Aside0.mk (stay hb7 HX6.out (by have := HQ6.out; omega)); obtain ⟨hz0, hz1, hz2, hz3, hz4⟩ := cells_5 XB7.out; obtain ⟨hy0, hy1, hy2, hy3, hy4⟩ := froz_5 XB7.out; have hq7 : q < w7.heap.size := (by have := HQ6.out; have := hb7.size; omega); have HBB7 := Aside0.mk hb7; clear hv7 hb7)
  have XS8 := Aside0.mk ((ShdAt.put XB7.out HV7.out).below ((Below.refl _ _).alloc (Nat.le_refl _) (.cells #[.int .i64 ex3.2.err, .string ex3.2.val, .int .u64 ex3.2.ver, .bool ex3.2.found, .bool ex3.2.commit] 38)))
  have hpz : (put5 w7 q (.slice E0''' n0''' d0''') (.slice E1''' n1''' d1''') (.slice E2''' n2''' d2''') (.slice E3''' n3''' d3''') (.int .u64 ex3.1.ver)).heap.size = w7.heap.size := by simp [put5, World.setCell]
  have HT8 := Aside0.mk (stayA (put5_other (b := w.heap.size) (g := q) (by have := HQ4B.out; omega) (stay HBB7.out HT6.out (by have := HQ6.out; have := HQ4B.out; omega)) (.slice E0''' n0''' d0''') (.slice E1''' n1''' d1''') (.slice E2''' n2''' d2''') (.slice E3''' n3''' d3''') (.int .u64 ex3.1.ver)) (.cells #[.int .i64 ex3.2.err, .string ex3.2.val, .int .u64 ex3.2.ver, .bool ex3.2.found, .bool ex3.2.commit] 38))
  have HA8 := Aside0.mk (stayA (put5_other (b := q + 1) (g := q) (by have := HQ4B.out; omega) (stay HBB7.out HA6.out (by have := HQ6.out; have := HQ4B.out; omega)) (.slice E0''' n0''' d0''') (.slice E1''' n1''' d1''') (.slice E2''' n2''' d2''') (.slice E3''' n3''' d3''') (.int .u64 ex3.1.ver)) (.cells #[.int .i64 ex3.2.err, .string ex3.2.val, .int .u64 ex3.2.ver, .bool ex3.2.found, .bool ex3.2.commit] 38))
  have HAB8 := Aside0.mk (stayA (put5_other (b := b2) (g := q) (by have := HQ4B.out; omega) (stay HBB7.out HAB6.out (by have := HQ6.out; have := HQ4B.out; omega)) (.slice E0''' n0''' d0''') (.slice E1''' n1''' d1''') (.slice E2''' n2''' d2''') (.slice E3''' n3''' d3''') (.int .u64 ex3.1.ver)) (.cells #[.int .i64 ex3.2.err, .string ex3.2.val, .int .u64 ex3.2.ver, .bool ex3.2.found, .bool ex3.2.commit] 38))
  have ha8 := heap_alloc_new (put5 w7 q (.slice E0''' n0''' d0''') (.slice E1''' n1''' d1''') (.slice E2''' n2''' d2''') (.slice E3''' n3''' d3''') (.int .u64 ex3.1.ver)) (.cells #[.int .i64 ex3.2.err, .string ex3.2.val, .int .u64 ex3.2.ver, .bool ex3.2.found, .bool ex3.2.commit] 38)
  rw [hpz] at ha8
  have HAC8 := Aside0.mk ha8
  have HB8 : Aside0 (Below w.heap.size w ((put5 w7 q (.slice E0''' n0''' d0''') (.slice E1''' n1''' d1''') (.slice E2''' n2''' d2''') (.slice E3''' n3''' d3''') (.int .u64 ex3.1.ver)).alloc (.cells #[.int .i64 ex3.2.err, .string ex3.2.val, .int .u64 ex3.2.ver, .bool ex3.2.found, .bool ex3.2.commit] 38))) := ⟨(put5_below (HB6.out.trans (HBB7.out.mono HB6.out.size)) (by omega) _ _ _ _ _).alloc (by rw [hpz]; have := HB6.out.size; have := HBB7.out.size; omega) _⟩
  have HQ8 : Aside0 (q + 1 + 1 ≤ ((put5 w7 q (.slice E0''' n0''' d0''') (.slice E1''' n1''' d1''') (.slice E2''' n2''' d2''') (.slice E3''' n3''' d3''') (.int .u64 ex3.1.ver)).alloc (.cells #[.int .i64 ex3.2.err, .string ex3.2.val, .int .u64 ex3.2.ver, .bool ex3.2.found, .bool ex3.2.commit] 38)).heap.size ∧ w7.heap.size < ((put5 w7 q (.slice E0''' n0''' d0''') (.slice E1''' n1''' d1''') (.slice E2''' n2''' d2''') (.slice E3''' n3''' d3''') (.int .u64 ex3.1.ver)).alloc (.cells #[.int .i64 ex3.2.err, .string ex3.2.val, .int .u64 ex3.2.ver, .bool ex3.2.found, .bool ex3.2.commit] 38)).heap.size) := ⟨by rw [World.size_alloc, hpz]; have := HQ6.out; have := HBB7.out.size; omega⟩
  have hb7q : q + 1 + 1 ≤ w7.heap.size := by have := HQ6.out; have := HBB7.out.size; omega
  have hbb : b2 < w7.heap.size := by have := HQ6.out; have := HBB7.out.size; omega
  clear ha8 hpz HV7 HBB7 hz0 hz1 hz2 hz3 hz4 hy0 hy1 hy2 hy3 hy4 hq7
  change Code.wp _ _ _ _ ((put5 w7 q (.slice E0''' n0''' d0''') (.slice E1''' n1''' d1''') (.slice E2''' n2''' d2''') (.slice E3''' n3''' d3''') (.int .u64 ex3.1.ver)).alloc (.cells #[.int .i64 ex3.2.err, .string ex3.2.val, .int .u64 ex3.2.ver, .bool ex3.2.found, .bool ex3.2.commit] 38))
  generalize (put5 w7 q (.slice E0''' n0''' d0''') (.slice E1''' n1''' d1''') (.slice E2''' n2''' d2''') (.slice E3''' n3''' d3''') (.int .u64 ex3.1.ver)).alloc (.cells #[.int .i64 ex3.2.err, .string ex3.2.val, .int .u64 ex3.2.ver, .bool ex3.2.found, .bool ex3.2.commit] 38) = W8 at *
  generalize w7.heap.size = b3 at *
  obtain ⟨A0, m0, c0, A1, m1, c1, A2, m2, c2, A3, m3, c3, hX, hDO⟩ := do_at XS8.out
  have HX8 := Aside0.mk hX
  have HDO := Aside0.mk hDO
  obtain ⟨hs0, hs1, hs2, hs3, hs4⟩ := cells_5 hX
  have ht0 := cell_row (cs := [.int .u64 1, .int .u64 0]) HT8.out 0
  have ht1 := cell_row (cs := [.int .u64 1, .int .u64 0]) HT8.out 1
  clear hX hDO
  go_upto_region 7 with (go_at_call 11; refine (HDO.out 4 exT ⟨#[]⟩ none 0 0 false none 0 0 [] W8 rfl (Kd.C_nil _ _) (Nat.le_refl _) inv3.ok (Below.refl _ _)).mono ?_; intro e w9 hp; obtain ⟨E0'''', n0'''', d0'''', E1'''', n1'''', d1'''', E2'''', n2'''', d2'''', E3'''', n3'''', d3'''', rfl, hv9, hb9⟩ := doOut (r := ex4) hp; clear hp ht0 ht1 hs0 hs1 hs2 hs3 hs4; have HV9 := Aside0.mk hv9; have HBB9 := Aside0.mk hb9; clear hv9 hb9)
  have XS10 := Aside0.mk (((XS8.out.below HBB9.out).below ((Below.refl _ _).alloc (Nat.le_refl _) (.cells #[.slice E0'''' n0'''' d0'''', .slice E1'''' n1'''' d1'''', .slice E2'''' n2'''' d2'''', .slice E3'''' n3'''' d3'''', .int .u64 ex4.1.ver] 28))).below ((Below.refl _ _).alloc (Nat.le_refl _) (.cells #[.int .i64 ex4.2.err, .string ex4.2.val, .int .u64 ex4.2.ver, .bool ex4.2.found, .bool ex4.2.commit] 38)))
  have hA := stayA (stayA (stay HBB9.out HA8.out (by have := HQ8.out; omega)) (.cells #[.slice E0'''' n0'''' d0'''', .slice E1'''' n1'''' d1'''', .slice E2'''' n2'''' d2'''', .slice E3'''' n3'''' d3'''', .int .u64 ex4.1.ver] 28)) (.cells #[.int .i64 ex4.2.err, .string ex4.2.val, .int .u64 ex4.2.ver, .bool ex4.2.found, .bool ex4.2.commit] 38)
  have hAB := stayA (stayA (stay HBB9.out HAB8.out (by have := HQ8.out; omega)) (.cells #[.slice E0'''' n0'''' d0'''', .slice E1'''' n1'''' d1'''', .slice E2'''' n2'''' d2'''', .slice E3'''' n3'''' d3'''', .int .u64 ex4.1.ver] 28)) (.cells #[.int .i64 ex4.2.err, .string ex4.2.val, .int .u64 ex4.2.ver, .bool ex4.2.found, .bool ex4.2.commit] 38)
  have hAC := stayA (stayA (stay HBB9.out HAC8.out (by have := HQ8.out; omega)) (.cells #[.slice E0'''' n0'''' d0'''', .slice E1'''' n1'''' d1'''', .slice E2'''' n2'''' d2'''', .slice E3'''' n3'''' d3'''', .int .u64 ex4.1.ver] 28)) (.cells #[.int .i64 ex4.2.err, .string ex4.2.val, .int .u64 ex4.2.ver, .bool ex4.2.found, .bool ex4.2.commit] 38)
  have hAD := heap_alloc_new (w9.alloc (.cells #[.slice E0'''' n0'''' d0'''', .slice E1'''' n1'''' d1'''', .slice E2'''' n2'''' d2'''', .slice E3'''' n3'''' d3'''', .int .u64 ex4.1.ver] 28)) (.cells #[.int .i64 ex4.2.err, .string ex4.2.val, .int .u64 ex4.2.ver, .bool ex4.2.found, .bool ex4.2.commit] 38)
  rw [World.size_alloc] at hAD
  have HB9 := HB8.out.trans (HBB9.out.mono HB8.out.size)
  have HB10 := Aside0.mk ((HB9.alloc HB9.size (.cells #[.slice E0'''' n0'''' d0'''', .slice E1'''' n1'''' d1'''', .slice E2'''' n2'''' d2'''', .slice E3'''' n3'''' d3'''', .int .u64 ex4.1.ver] 28)).alloc (by rw [World.size_alloc]; have := HB9.size; omega) (.cells #[.int .i64 ex4.2.err, .string ex4.2.val, .int .u64 ex4.2.ver, .bool ex4.2.found, .bool ex4.2.commit] 38))
  clear HB9
  change Code.wp _ _ _ _ ((w9.alloc (.cells #[.slice E0'''' n0'''' d0'''', .slice E1'''' n1'''' d1'''', .slice E2'''' n2'''' d2'''', .slice E3'''' n3'''' d3'''', .int .u64 ex4.1.ver] 28)).alloc (.cells #[.int .i64 ex4.2.err, .string ex4.2.val, .int .u64 ex4.2.ver, .bool ex4.2.found, .bool ex4.2.commit] 38))
  generalize (w9.alloc (.cells #[.slice E0'''' n0'''' d0'''', .slice E1'''' n1'''' d1'''', .slice E2'''' n2'''' d2'''', .slice E3'''' n3'''' d3'''', .int .u64 ex4.1.ver] 28)).alloc (.cells #[.int .i64 ex4.2.err, .string ex4.2.val, .int .u64 ex4.2.ver, .bool ex4.2.found, .bool ex4.2.commit] 38) = W10 at *
  rw [ex1_val] at hA
  rw [ex2_val] at hAB
  rw [ex3_val] at hAC XS10
  rw [ex4_val] at hAD
  clear XS8 HA8 HAB8 HAC8 HBB9 HV9 HDO HX8 HT8
  obtain ⟨R0, r0, R1, r1, R2, r2, R3, r3, hS, ⟨hrow, _⟩, _⟩ := XS10.out
  obtain ⟨rb, ro, rfl, _, hr1, _⟩ := rowRow (l := [⟨⟨#[97]⟩, ⟨#[49]⟩, 1⟩]) hrow 0 (by decide)
  have hr1' : W10.cell? ⟨rb, ro + 1, none⟩ = some (.string ⟨#[49]⟩) := by simpa using hr1
  obtain ⟨ha0, ha1, ha2, ha3, ha4⟩ := cells_5 hA
  obtain ⟨hb0, hb1, hb2, hb3, hb4⟩ := cells_5 hAB
  obtain ⟨hc0, hc1, hc2, hc3, hc4⟩ := cells_5 hAC
  obtain ⟨hd0, hd1, hd2, hd3, hd4⟩ := cells_5 hAD
  obtain ⟨hs0, hs1, hs2, hs3, hs4⟩ := cells_5 hS
  clear XS10 hA hAB hAC hAD hS hrow hr1
  dsimp only [List.length_cons, List.length_nil] at hs0
  go_wp2
  go_ret
  exact ⟨rfl, HB10.out⟩
end Go.Proofs.Ytmcgcdpiceikeaa.PAll
end
section
-- Printed by this session's pr.sh (the kit's print.py, several laws in one namespace). Not trusted: Lean checks it.
namespace Go.Proofs.Ytmcgcdpiceikeaa.PAll
open Go.RowKit Go.Proofs.YtmcgcdpiceikeaaW.PrintWords Go.Proofs.YtmcgcdpiceikeaaW.PrintLast Go.Proofs.YtmcgcdpiceikeaaW.PrintMore
attribute [local go_sem] max2_int min2_int max_two min_two max_three min_three max_four min_four   -- for this text's walks alone
set_option linter.unusedVariables false
set_option linter.unusedSimpArgs false

theorem eqA75 (d : Nat) (w : World) (x0 y0 : ByteArray) (x1 y1 : Int) (x2 y2 : Int) (x3 y3 : Bool) :
    (Op.equalIn (d + 3) 75 (.agg #[.string x0, .int .u64 x1, .int .u64 x2, .bool x3]) (.agg #[.string y0, .int .u64 y1, .int .u64 y2, .bool y3])).run Try.prog w = .ok (x0.toList == y0.toList && ((x1 == y1 && (x2 == y2)) && (x3 == y3))) w := by
  refine eqA_of Try.underlying75 (by kernel_rfl) ?_
  refine eqf_cons (by rfl) (by go_simp; rfl) (by go_simp; rfl) (by go_simp) ?_
  refine eqf_cons (by rfl) (by go_simp) (by go_simp) (eqA30 (d + 0) w _ _ _ _) ?_
  exact eqf_last (by rfl) (by go_simp; rfl) (by go_simp; rfl) (by go_simp)
end Go.Proofs.Ytmcgcdpiceikeaa.PAll
end
section
-- Printed by this session's pr.sh (the kit's print.py, several laws in one namespace). Not trusted: Lean checks it.
namespace Go.Proofs.Ytmcgcdpiceikeaa.PAll
open Go.RowKit Go.Proofs.YtmcgcdpiceikeaaW.PrintWords Go.Proofs.YtmcgcdpiceikeaaW.PrintLast Go.Proofs.YtmcgcdpiceikeaaW.PrintMore
attribute [local go_sem] max2_int min2_int max_two min_two max_three min_three max_four min_four   -- for this text's walks alone
set_option linter.unusedVariables false
set_option linter.unusedSimpArgs false

attribute [local go_sem high] eqA75
/-! ### ferruleref12_Same: function 29 -/
def ferruleref12_Same.l0 : Nat → List (S75) → List (S75) → Int → Option (Bool)
  | 0, _, _, _ => none
  | k + 1, x0, x1, x5 => if x5 < (x0.length : Int) then (if 0 ≤ x5 then (if x5 < (x1.length : Int) then (if (!((((rd_T75 x0 x5).f0).toList) == (((rd_T75 x1 x5).f0).toList)) || ((!(((rd_T75 x0 x5).f1.f0) == ((rd_T75 x1 x5).f1.f0)) || (!(((rd_T75 x0 x5).f1.f1) == ((rd_T75 x1 x5).f1.f1)))) || (!(((rd_T75 x0 x5).f2) == ((rd_T75 x1 x5).f2))))) = true then (some false) else (ferruleref12_Same.l0 k x0 x1 (wrap64 (x5 + 1)))) else (none)) else (none)) else (some true)
def ferruleref12_Same.f (k : Nat) (l0 : List (S75)) (l1 : List (S75)) : Option (Bool) := if (l0.length : Int) = (l1.length : Int) then (ferruleref12_Same.l0 k l0 l1 0) else (some false)
set_option maxHeartbeats 8000000 in
set_option maxRecDepth 100000 in
theorem ferruleref12_Same.calls (k : Nat) (A0 : Option Addr) (c0 : Nat) (l0 : List (S75)) (A1 : Option Addr) (c1 : Nat) (l1 : List (S75)) (r : Bool) (w : World) (hr0 : Kd.C k75 w A0 l0.length l0) (hc0 : l0.length ≤ c0) (hr1 : Kd.C k75 w A1 l1.length l1) (hc1 : l1.length ≤ c1) (h : ferruleref12_Same.f k l0 l1 = some r) :
    Calls Try.prog 29 #[.slice A0 l0.length c0, .slice A1 l1.length c1] w fun e w' => e = .returned (.bool r) ∧ Drawn0 w w' := by
  have hu75 := Try.underlying75
  have HR0 := Aside0.mk hr0
  have HC0 := Aside0.mk hc0
  clear hr0 hc0
  have HR1 := Aside0.mk hr1
  have HC1 := Aside0.mk hc1
  clear hr1 hc1
  have H : (if (l0.length : Int) = (l1.length : Int) then (ferruleref12_Same.l0 k l0 l1 0) else (some false)) = some r := h
  clear h
  by_cases c3 : (l0.length : Int) = (l1.length : Int)
  · rw [if_pos c3] at H
    have c3b0 : ((l0.length : Int) == (l1.length : Int)) = true := beq_iff_eq.mpr c3
    have c3b1 : ((l0.length : Int) != (l1.length : Int)) = false := bne_eq_false_iff_eq.mpr c3
    have c3b2 : (l0.length == l1.length) = true := by first | simpa using c3 | (simp at c3 ⊢; omega)
    clear c3
    have H' := Aside0.mk H
    clear H
    go_enter Try.func29, Try.ntmps29
    go_wp2
    repeat (go_quiet (fail); try go_wp2)
    go_loopg [5] k (fun kq v5 w' => ∃ (x5_1 : Int), v5 = .int .i64 x5_1 ∧ Aside0 (ferruleref12_Same.l0 kq l0 l1 x5_1 = some r) ∧ Aside0 (kq ≤ k) ∧ Drawn0 w w')
    case atStart => exact ⟨(0), (by first | rfl | (simp; done) | (simp [*]; done)), H', ⟨Nat.le_refl _⟩, by repeat (first | exact Drawn0.refl _ | apply Drawn0.step)⟩
    case round =>
      clear H'
      try clear c1
      try clear c2
      try clear p2
      try clear c3
      try clear c3b0
      try clear c3b1
      try clear c3b2
      obtain ⟨x5_1, rfl, HA, HK1, ⟨m1, rfl⟩⟩ := hrel
      cases gk with
      | zero => exact absurd HA.out (by simp [ferruleref12_Same.l0])
      | succ k1 =>
        have H := HA.out
        clear HA
        simp only [ferruleref12_Same.l0] at H
        by_cases c4 : x5_1 < (l0.length : Int)
        · rw [if_pos c4] at H
          have c4b0 : decide (x5_1 < (l0.length : Int)) = true := decide_eq_true c4
          clear c4
          by_cases c5 : 0 ≤ x5_1
          · rw [if_pos c5] at H
            have c5b0 : decide (0 ≤ x5_1) = true := decide_eq_true c5
            clear c5
            by_cases c6 : x5_1 < (l1.length : Int)
            · rw [if_pos c6] at H
              have c6b0 : decide (x5_1 < (l1.length : Int)) = true := decide_eq_true c6
              clear c6
              by_cases c7 : (!((((rd_T75 l0 x5_1).f0).toList) == (((rd_T75 l1 x5_1).f0).toList)) || ((!(((rd_T75 l0 x5_1).f1.f0) == ((rd_T75 l1 x5_1).f1.f0)) || (!(((rd_T75 l0 x5_1).f1.f1) == ((rd_T75 l1 x5_1).f1.f1)))) || (!(((rd_T75 l0 x5_1).f2) == ((rd_T75 l1 x5_1).f2))))) = true
              · rw [if_pos c7] at H
                have c7b0 : (!((((rd_T75 l0 x5_1).f0).toList) == (((rd_T75 l1 x5_1).f0).toList)) || ((!(((rd_T75 l0 x5_1).f1.f0) == ((rd_T75 l1 x5_1).f1.f0)) || (!(((rd_T75 l0 x5_1).f1.f1) == ((rd_T75 l1 x5_1).f1.f1)))) || (!(((rd_T75 l0 x5_1).f2) == ((rd_T75 l1 x5_1).f2))))) = true := c7
                clear c7
                obtain rfl := Option.some.inj H
                have p509 : 0 ≤ (x5_1 : Int) := of_decide_eq_true (by first | (with_reducible assumption) | assumption)
                have q509 : x5_1 < (l0.length : Int) := of_decide_eq_true (by first | (with_reducible assumption) | assumption)
                obtain ⟨ad509, e509, hx509_0, hx509_1, hx509_2, hx509_3⟩ := at_T75 HR0.out x5_1 p509 q509
                cases e509
                replace p509 := eq_true p509
                replace q509 := eq_true q509
                have p510 : 0 ≤ (x5_1 : Int) := of_decide_eq_true (by first | (with_reducible assumption) | assumption)
                have q510 : x5_1 < (l1.length : Int) := of_decide_eq_true (by first | (with_reducible assumption) | assumption)
                obtain ⟨ad510, e510, hx510_0, hx510_1, hx510_2, hx510_3⟩ := at_T75 HR1.out x5_1 p510 q510
                cases e510
                replace p510 := eq_true p510
                replace q510 := eq_true q510
                go_wp2
                repeat (go_quiet (fail); try go_wp2)
                go_ret
                exact ⟨by first | rfl | (simp; done) | (simp [*]; done), by repeat (first | exact Drawn0.refl _ | apply Drawn0.step)⟩
              · rw [if_neg c7] at H
                have c7b0 : (!((((rd_T75 l0 x5_1).f0).toList) == (((rd_T75 l1 x5_1).f0).toList)) || ((!(((rd_T75 l0 x5_1).f1.f0) == ((rd_T75 l1 x5_1).f1.f0)) || (!(((rd_T75 l0 x5_1).f1.f1) == ((rd_T75 l1 x5_1).f1.f1)))) || (!(((rd_T75 l0 x5_1).f2) == ((rd_T75 l1 x5_1).f2))))) = false := by simpa using c7
                clear c7
                have H' := Aside0.mk H
                clear H
                have p509 : 0 ≤ (x5_1 : Int) := of_decide_eq_true (by first | (with_reducible assumption) | assumption)
                have q509 : x5_1 < (l0.length : Int) := of_decide_eq_true (by first | (with_reducible assumption) | assumption)
                obtain ⟨ad509, e509, hx509_0, hx509_1, hx509_2, hx509_3⟩ := at_T75 HR0.out x5_1 p509 q509
                cases e509
                replace p509 := eq_true p509
                replace q509 := eq_true q509
                have p510 : 0 ≤ (x5_1 : Int) := of_decide_eq_true (by first | (with_reducible assumption) | assumption)
                have q510 : x5_1 < (l1.length : Int) := of_decide_eq_true (by first | (with_reducible assumption) | assumption)
                obtain ⟨ad510, e510, hx510_0, hx510_1, hx510_2, hx510_3⟩ := at_T75 HR1.out x5_1 p510 q510
                cases e510
                replace p510 := eq_true p510
                replace q510 := eq_true q510
                go_wp2
                repeat (go_quiet (fail); try go_wp2)
                go_roundg k1
                case measure => have := HK1.out; omega
                case rel => exact ⟨(wrap64 (x5_1 + 1)), (by first | rfl | (simp; done) | (simp [*]; done)), H', ⟨by have := HK1.out; omega⟩, by repeat (first | exact Drawn0.refl _ | apply Drawn0.step)⟩
            · rw [if_neg c6] at H
              exact absurd H (by simp)
          · rw [if_neg c5] at H
            exact absurd H (by simp)
        · rw [if_neg c4] at H
          have c4b0 : decide (x5_1 < (l0.length : Int)) = false := decide_eq_false c4
          clear c4
          obtain rfl := Option.some.inj H
          go_wp2
          repeat (go_quiet (fail); try go_wp2)
          go_ret
          exact ⟨by first | rfl | (simp; done) | (simp [*]; done), by repeat (first | exact Drawn0.refl _ | apply Drawn0.step)⟩
  · rw [if_neg c3] at H
    have c3b0 : ((l0.length : Int) == (l1.length : Int)) = false := beq_eq_false_iff_ne.mpr c3
    have c3b1 : ((l0.length : Int) != (l1.length : Int)) = true := bne_iff_ne.mpr c3
    have c3b2 : (l0.length == l1.length) = false := by first | simpa using c3 | (simp at c3 ⊢; omega)
    obtain rfl := Option.some.inj H
    go_enter Try.func29, Try.ntmps29
    go_wp2
    repeat (go_quiet (fail); try go_wp2)
    go_ret
    exact ⟨by first | rfl | (simp; done) | (simp [*]; done), by repeat (first | exact Drawn0.refl _ | apply Drawn0.step)⟩

end Go.Proofs.Ytmcgcdpiceikeaa.PAll
end
