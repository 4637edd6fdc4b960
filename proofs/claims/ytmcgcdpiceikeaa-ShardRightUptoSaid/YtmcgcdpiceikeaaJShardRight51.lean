/- Joined texts of the claim ShardRight (part 51): contracts of functions and plain laws. -/
import Derived.Test.YtmcgcdpiceikeaaJShardRight14
import Derived.Test.YtmcgcdpiceikeaaJShardRight47
import Derived.Test.YtmcgcdpiceikeaaJShardRight50
import Derived.Test.YtmcgcdpiceikeaaJShardRight39
import Derived.Test.YtmcgcdpiceikeaaJShardRight40
section
/- A shard that a law is handed. -/
namespace Go.Proofs.Ytmcgcdpiceikeaa.PAll
open Go.RowKit Go.Proofs.YtmcgcdpiceikeaaW.PrintWords Go.Proofs.YtmcgcdpiceikeaaW.PrintMore Go.Proofs.Ytmcgcdpiceikeaa
set_option linter.unusedVariables false
theorem u64_bounds {n : Int} (h : (Lit.int .u64 n).wf = true) : 0 ≤ n ∧ n < 18446744073709551616 := by
  simp [Lit.wf, IntKind.min, IntKind.max, IntKind.signed, IntKind.bits] at h
  omega
theorem okTx_ofS {x : S30} (h : ok30 x) : okTx x := ⟨u64_bounds h.1, u64_bounds h.2⟩
theorem sum_len {α : Type} (m : α → Nat) (hm : ∀ x, 1 ≤ m x) : ∀ l : List α, l.length ≤ (l.map m).sum
  | [] => by simp
  | a :: l => by
    have := sum_len m hm l
    have := hm a
    rw [List.map_cons, List.sum_cons, List.length_cons]
    omega
theorem bulkRow_one (x : S50) : 1 ≤ bulk50 x := by unfold bulk50; omega
theorem bulkHold_one (x : S75) : 1 ≤ bulk75 x := by unfold bulk75; omega
theorem bulkDone_one (x : S68) : 1 ≤ bulk68 x := by unfold bulk68; omega
theorem bulkPut_one (x : S54) : 1 ≤ bulk54 x := by unfold bulk54; omega
theorem bulkOpen_one (x : S48) : 1 ≤ bulk48 x := by unfold bulk48; omega
theorem bulkOpen_puts (x : S48) : x.f3.length ≤ bulk48 x := by
  have := sum_len bulk54 bulkPut_one x.f3
  unfold bulk48
  dsimp only
  omega
theorem openCount_bulk : ∀ l : List S48, openCount l ≤ (l.map bulk48).sum
  | [] => by simp [openCount]
  | a :: l => by
    have h := openCount_bulk l
    have h2 := bulkOpen_puts a
    unfold openCount at *
    rw [List.map_cons, List.sum_cons, List.map_cons, List.sum_cons]
    omega
structure ShdSm (x : S28) : Prop where
  ks : x.f0.length + openCount x.f2 ≤ 4000000
  os : x.f2.length + x.f3.length ≤ 4000000
  hs : x.f1.length ≤ 4000000
  rs : x.f0.length ≤ 4000000
  k0 : ∀ r ∈ x.f0, r.f0.size ≤ 140737488351232
  k2 : ∀ o ∈ x.f2, ∀ p ∈ o.f3, p.f0.size ≤ 140737488351232
  ot : ∀ o ∈ x.f2, okTx o.f0
  dt : ∀ d ∈ x.f3, okTx d.f0
  ht : ∀ h ∈ x.f1, okPl h
theorem shdSm {x : S28} (hs : ok28 x) (hu : bulk28 x ≤ 1048576) : ShdSm x := by
  obtain ⟨h0, h1, h2, h3, _⟩ := hs
  unfold bulk28 at hu
  dsimp only at hu
  have b0 := sum_len bulk50 bulkRow_one x.f0
  have b1 := sum_len bulk75 bulkHold_one x.f1
  have b2 := sum_len bulk48 bulkOpen_one x.f2
  have b3 := sum_len bulk68 bulkDone_one x.f3
  have b4 := openCount_bulk x.f2
  refine ⟨by omega, by omega, by omega, by omega, fun r hr => (h0.2 r hr).1, fun o ho p hp => ?_, fun o ho => okTx_ofS (h2.2 o ho).1, fun d hd => okTx_ofS (h3.2 d hd).1, fun h hh => ⟨okTx_ofS (h1.2 h hh).2.1, ?_⟩⟩
  · exact ((h2.2 o ho).2.2.2.2 p hp).1
  · have := (h1.2 h hh).1
    unfold maxLen
    dsimp only at this
    omega
/-- The rows of a shard. -/
structure ShR (w : World) (x : S28) (A0 : Option Addr) (c0 : Nat) (A1 : Option Addr) (c1 : Nat) (A2 : Option Addr) (c2 : Nat) (A3 : Option Addr) (c3 : Nat) : Prop where
  r0 : Kd.C k50 w A0 x.f0.length x.f0
  l0 : x.f0.length ≤ c0
  r1 : Kd.C k75 w A1 x.f1.length x.f1
  l1 : x.f1.length ≤ c1
  r2 : Kd.C k48 w A2 x.f2.length x.f2
  l2 : x.f2.length ≤ c2
  r3 : Kd.C k68 w A3 x.f3.length x.f3
  l3 : x.f3.length ≤ c3
theorem ShR.below {w w' : World} {x : S28} {A0 : Option Addr} {c0 : Nat} {A1 : Option Addr} {c1 : Nat} {A2 : Option Addr} {c2 : Nat} {A3 : Option Addr} {c3 : Nat} (h : ShR w x A0 c0 A1 c1 A2 c2 A3 c3) (hb : Below w.heap.size w w') : ShR w' x A0 c0 A1 c1 A2 c2 A3 c3 :=
  ⟨Kd.C_below h.r0 hb, h.l0, Kd.C_below h.r1 hb, h.l1, Kd.C_below h.r2 hb, h.l2, Kd.C_below h.r3 hb, h.l3⟩
theorem shdArg {w : World} {cs : Array Value} {x : S28} (hx : k28.K w x cs.toList) : ∃ A0 c0 A1 c1 A2 c2 A3 c3, cs = #[.slice A0 x.f0.length c0, .slice A1 x.f1.length c1, .slice A2 x.f2.length c2, .slice A3 x.f3.length c3, .int .u64 x.f4] ∧ ShR w x A0 c0 A1 c1 A2 c2 A3 c3 := by
  obtain ⟨l0, r0, hcs, h0, ⟨l1, r1, rfl, h1, ⟨l2, r2, rfl, h2, ⟨l3, r3, rfl, h3, h4⟩⟩⟩⟩ := hx
  obtain ⟨A0, c0, rfl, hc0, hA0⟩ := h0
  obtain ⟨A1, c1, rfl, hc1, hA1⟩ := h1
  obtain ⟨A2, c2, rfl, hc2, hA2⟩ := h2
  obtain ⟨A3, c3, rfl, hc3, hA3⟩ := h3
  obtain rfl := h4
  exact ⟨A0, c0, A1, c1, A2, c2, A3, c3, Array.toList_inj.1 hcs, ⟨hA0, hc0, hA1, hc1, hA2, hc2, hA3, hc3⟩⟩
theorem codeRight {w : World} {x : S28} {A0 : Option Addr} {c0 : Nat} {A1 : Option Addr} {c1 : Nat} {A2 : Option Addr} {c2 : Nat} {A3 : Option Addr} {c3 : Nat} (h : ShR w x A0 c0 A1 c1 A2 c2 A3 c3) (hs : ShdSm x) :
    Calls Try.prog 19 #[.agg #[.slice A0 x.f0.length c0, .slice A1 x.f1.length c1, .slice A2 x.f2.length c2, .slice A3 x.f3.length c3, .int .u64 x.f4]] w fun e w' => e = .returned (.bool (right13V x.f0 x.f1 x.f2 x.f3)) ∧ Below w.heap.size w w' := by
  have := right13c_calls A0 c0 A1 c1 A2 c2 A3 c3 x.f4 x.f0 x.f1 x.f2 x.f3 w h.r0 h.l0 h.r1 h.l1 h.r2 h.l2 h.r3 h.l3 hs.ks hs.os hs.hs (fun r hr => by have := hs.k0 r hr; unfold maxLen; omega) (fun o ho p hp => by have := hs.k2 o ho p hp; unfold maxLen; omega) hs.ot hs.dt hs.ht
  rw [rightCV_eq] at this
  exact this
theorem docRight {w : World} {x : S28} {A0 : Option Addr} {c0 : Nat} {A1 : Option Addr} {c1 : Nat} {A2 : Option Addr} {c2 : Nat} {A3 : Option Addr} {c3 : Nat} (h : ShR w x A0 c0 A1 c1 A2 c2 A3 c3) (hs : ShdSm x) :
    Calls Try.prog 14 #[.agg #[.slice A0 x.f0.length c0, .slice A1 x.f1.length c1, .slice A2 x.f2.length c2, .slice A3 x.f3.length c3, .int .u64 x.f4]] w fun e w' => e = .returned (.bool (right13V x.f0 x.f1 x.f2 x.f3)) ∧ Below w.heap.size w w' :=
  right13g_calls A0 c0 A1 c1 A2 c2 A3 c3 x.f0 x.f1 x.f2 x.f3 x.f4 w (fun r hr => by have := hs.k0 r hr; omega) (by have := hs.ks; omega) h.r0 h.l0 h.r1 h.l1 h.r2 h.l2 h.r3 h.l3 (by have := hs.os; omega)
theorem codeSame {w : World} {x y : S28} {A0 : Option Addr} {c0 : Nat} {A1 : Option Addr} {c1 : Nat} {A2 : Option Addr} {c2 : Nat} {A3 : Option Addr} {c3 : Nat} {B0 : Option Addr} {d0 : Nat} {B1 : Option Addr} {d1 : Nat} {B2 : Option Addr} {d2 : Nat} {B3 : Option Addr} {d3 : Nat} (h : ShR w x A0 c0 A1 c1 A2 c2 A3 c3) (hs : ShdSm x) (g : ShR w y B0 d0 B1 d1 B2 d2 B3 d3) :
    Calls Try.prog 20 #[.agg #[.slice A0 x.f0.length c0, .slice A1 x.f1.length c1, .slice A2 x.f2.length c2, .slice A3 x.f3.length c3, .int .u64 x.f4], .agg #[.slice B0 y.f0.length d0, .slice B1 y.f1.length d1, .slice B2 y.f2.length d2, .slice B3 y.f3.length d3, .int .u64 y.f4]] w fun e w' => e = .returned (.bool (same13V x.f0 x.f1 x.f2 x.f3 x.f4 y.f0 y.f1 y.f2 y.f3 y.f4)) ∧ Below w.heap.size w w' :=
  same13c_calls A0 c0 A1 c1 A2 c2 A3 c3 B0 d0 B1 d1 B2 d2 B3 d3 x.f0 x.f1 x.f2 x.f3 x.f4 y.f0 y.f1 y.f2 y.f3 y.f4 w h.r0 h.l0 h.r1 h.l1 h.r2 h.l2 h.r3 h.l3 g.r0 g.l0 g.r1 g.l1 g.r2 g.l2 g.r3 g.l3 (by have := hs.rs; omega) (by have := hs.hs; omega) (by have := hs.os; omega)
theorem docSame {w : World} {x y : S28} {A0 : Option Addr} {c0 : Nat} {A1 : Option Addr} {c1 : Nat} {A2 : Option Addr} {c2 : Nat} {A3 : Option Addr} {c3 : Nat} {B0 : Option Addr} {d0 : Nat} {B1 : Option Addr} {d1 : Nat} {B2 : Option Addr} {d2 : Nat} {B3 : Option Addr} {d3 : Nat} (h : ShR w x A0 c0 A1 c1 A2 c2 A3 c3) (hs : ShdSm x) (g : ShR w y B0 d0 B1 d1 B2 d2 B3 d3) :
    Calls Try.prog 13 #[.agg #[.slice A0 x.f0.length c0, .slice A1 x.f1.length c1, .slice A2 x.f2.length c2, .slice A3 x.f3.length c3, .int .u64 x.f4], .agg #[.slice B0 y.f0.length d0, .slice B1 y.f1.length d1, .slice B2 y.f2.length d2, .slice B3 y.f3.length d3, .int .u64 y.f4]] w fun e w' => e = .returned (.bool (same13V x.f0 x.f1 x.f2 x.f3 x.f4 y.f0 y.f1 y.f2 y.f3 y.f4)) ∧ Below w.heap.size w w' :=
  same13r_calls A0 c0 A1 c1 A2 c2 A3 c3 B0 d0 B1 d1 B2 d2 B3 d3 x.f0 x.f1 x.f2 x.f3 x.f4 y.f0 y.f1 y.f2 y.f3 y.f4 w h.r0 h.l0 h.r1 h.l1 h.r2 h.l2 h.r3 h.l3 g.r0 g.l0 g.r1 g.l1 g.r2 g.l2 g.r3 g.l3 (by have := hs.rs; omega) (by have := hs.hs; omega)
end Go.Proofs.Ytmcgcdpiceikeaa.PAll
end
section
/- shard.Do by a path of what it calls; the four orders of the document's example. -/
namespace Go.Proofs.Ytmcgcdpiceikeaa.PAll
open Go.RowKit Go.Proofs.YtmcgcdpiceikeaaW.PrintWords Go.Proofs.YtmcgcdpiceikeaaW.PrintMore Go.Proofs.Ytmcgcdpiceikeaa
set_option linter.unusedVariables false
set_option maxRecDepth 100000 in
set_option maxHeartbeats 8000000 in
theorem do_ask2x (t : S30) (key : ByteArray) (A4 : Option Addr) (c4 : Nat) (cm : Bool) (A5 : Option Addr) (n5 c5 : Nat) (A0 : Option Addr) (c0 : Nat) (A1 : Option Addr) (c1 : Nat) (A2 : Option Addr) (c2 : Nat) (A3 : Option Addr) (c3 : Nat) (rs : List S50) (hs : List S75) (os : List S48) (ds : List S68) (ver : Int) (w : World) (hr0 : Kd.C k50 w A0 rs.length rs) (hc0 : rs.length ≤ c0) (hr1 : Kd.C k75 w A1 hs.length hs) (hc1 : hs.length ≤ c1) (hr2 : Kd.C k48 w A2 os.length os) (hc2 : os.length ≤ c2) (hr3 : Kd.C k68 w A3 ds.length ds) (hc3 : ds.length ≤ c3) (ps : List S54) (hr4 : Kd.C k54 w A4 ps.length ps) (hc4 : ps.length ≤ c4) (R : Shd × Ans) (hH : ∀ W, Below w.heap.size w W → Calls Try.prog 21 #[.agg (shv A0 rs.length c0 A1 hs.length c1 A2 os.length c2 A3 ds.length c3 ver), .agg #[.int .i64 2, .int .u64 t.f0, .int .u64 t.f1, .string key, .slice A4 ps.length c4, .bool cm, .slice A5 n5 c5]] W (DoPost W R)) :
    Calls Try.prog 11 #[.agg (shv A0 rs.length c0 A1 hs.length c1 A2 os.length c2 A3 ds.length c3 ver), .agg #[.int .i64 2, .int .u64 t.f0, .int .u64 t.f1, .string key, .slice A4 ps.length c4, .bool cm, .slice A5 n5 c5]] w (DoPost w R) := by
  obtain ⟨bS, bO, bZ, bA⟩ := alloc4 w (.cells #[.slice A0 rs.length c0, .slice A1 hs.length c1, .slice A2 os.length c2, .slice A3 ds.length c3, .int .u64 ver] 28) (.cells #[.int .i64 2, .int .u64 t.f0, .int .u64 t.f1, .string key, .slice A4 ps.length c4, .bool cm, .slice A5 n5 c5] 34) (.cells #[.slice none 0 0, .slice none 0 0, .slice none 0 0, .slice none 0 0, .int .u64 0] 28) (.cells #[.int .i64 0, .string ⟨#[]⟩, .int .u64 0, .bool false, .bool false] 38)
  have hb4 : Below w.heap.size w ((((w.alloc (.cells #[.slice A0 rs.length c0, .slice A1 hs.length c1, .slice A2 os.length c2, .slice A3 ds.length c3, .int .u64 ver] 28)).alloc (.cells #[.int .i64 2, .int .u64 t.f0, .int .u64 t.f1, .string key, .slice A4 ps.length c4, .bool cm, .slice A5 n5 c5] 34)).alloc (.cells #[.slice none 0 0, .slice none 0 0, .slice none 0 0, .slice none 0 0, .int .u64 0] 28)).alloc (.cells #[.int .i64 0, .string ⟨#[]⟩, .int .u64 0, .bool false, .bool false] 38)) := ((((Below.refl w.heap.size w).alloc (Nat.le_refl _) _).alloc (by simp) _).alloc (by simp; omega) _).alloc (by simp; omega) _
  have HW4 : Aside0 (((((w.alloc (.cells #[.slice A0 rs.length c0, .slice A1 hs.length c1, .slice A2 os.length c2, .slice A3 ds.length c3, .int .u64 ver] 28)).alloc (.cells #[.int .i64 2, .int .u64 t.f0, .int .u64 t.f1, .string key, .slice A4 ps.length c4, .bool cm, .slice A5 n5 c5] 34)).alloc (.cells #[.slice none 0 0, .slice none 0 0, .slice none 0 0, .slice none 0 0, .int .u64 0] 28)).alloc (.cells #[.int .i64 0, .string ⟨#[]⟩, .int .u64 0, .bool false, .bool false] 38)).heap.size = w.heap.size + 1 + 1 + 1 + 1) := ⟨by simp⟩
  have BZ := Aside0.mk bZ
  have BA := Aside0.mk bA
  have HB4 := Aside0.mk hb4
  have HCA := Aside0.mk (hH _ hb4)
  clear hr0 hc0 hr1 hc1 hr2 hc2 hr3 hc3 hr4 hc4
  obtain ⟨hs0, hs1, hs2, hs3, hs4⟩ := cells_5 bS
  obtain ⟨ho0, ho1, ho2, ho3, ho4, ho5, ho6⟩ := cells_7 bO
  clear bS bO bZ bA hb4
  obtain ⟨ta, ti⟩ := t
  unfold shv at *
  dsimp only at *
  go_enter Try.func11, Try.ntmps11
  go_wp2_with (go_at_call 21; refine (HCA.out).mono ?_; intro e w5 hpost; obtain ⟨E0, n0', d0, E1, n1', d1, E2, n2', d2, E3, n3', d3, rfl, hv5, hb5⟩ := doOut hpost; clear hpost hs0 hs1 hs2 hs3 hs4 ho0 ho1 ho2 ho3 ho4 ho5 ho6; have ZB7 := Aside0.mk (stay hb5 BZ.out (by rw [HW4.out]; omega)); have AB7 := Aside0.mk (stay hb5 BA.out (by rw [HW4.out]; omega)); obtain ⟨hz0, hz1, hz2, hz3, hz4⟩ := cells_5 ZB7.out; obtain ⟨ha0, ha1, ha2, ha3, ha4⟩ := cells_5 AB7.out; obtain ⟨hy0, hy1, hy2, hy3, hy4⟩ := froz_5 ZB7.out; obtain ⟨hx0, hx1, hx2, hx3, hx4⟩ := froz_5 AB7.out; have HB7 := Aside0.mk (HB4.out.trans (hb5.mono HB4.out.size)); have HV5 := Aside0.mk hv5; clear hv5 hb5)
  refine twoBoxes rfl rfl rfl rfl ZB7.out AB7.out (by omega) ?_
  exact ⟨_, rfl, put5_z HV5.out ZB7.out AB7.out _ _ _ _ _ _ _ _ _ _, put5_below (put5_below HB7.out (show w.heap.size ≤ w.heap.size + 1 + 1 by omega) _ _ _ _ _) (show w.heap.size ≤ w.heap.size + 1 + 1 + 1 by omega) _ _ _ _ _⟩
set_option maxRecDepth 100000 in
set_option maxHeartbeats 8000000 in
theorem do_prepx (t : S30) (key : ByteArray) (A4 : Option Addr) (c4 : Nat) (cm : Bool) (A5 : Option Addr) (n5 c5 : Nat) (A0 : Option Addr) (c0 : Nat) (A1 : Option Addr) (c1 : Nat) (A2 : Option Addr) (c2 : Nat) (A3 : Option Addr) (c3 : Nat) (rs : List S50) (hs : List S75) (os : List S48) (ds : List S68) (ver : Int) (w : World) (hr0 : Kd.C k50 w A0 rs.length rs) (hc0 : rs.length ≤ c0) (hr1 : Kd.C k75 w A1 hs.length hs) (hc1 : hs.length ≤ c1) (hr2 : Kd.C k48 w A2 os.length os) (hc2 : os.length ≤ c2) (hr3 : Kd.C k68 w A3 ds.length ds) (hc3 : ds.length ≤ c3) (ps : List S54) (hr4 : Kd.C k54 w A4 ps.length ps) (hc4 : ps.length ≤ c4) (R : Shd × Ans) (hH : ∀ W, Below w.heap.size w W → Calls Try.prog 22 #[.agg (shv A0 rs.length c0 A1 hs.length c1 A2 os.length c2 A3 ds.length c3 ver), .agg #[.int .i64 3, .int .u64 t.f0, .int .u64 t.f1, .string key, .slice A4 ps.length c4, .bool cm, .slice A5 n5 c5]] W (DoPost W R)) :
    Calls Try.prog 11 #[.agg (shv A0 rs.length c0 A1 hs.length c1 A2 os.length c2 A3 ds.length c3 ver), .agg #[.int .i64 3, .int .u64 t.f0, .int .u64 t.f1, .string key, .slice A4 ps.length c4, .bool cm, .slice A5 n5 c5]] w (DoPost w R) := by
  obtain ⟨bS, bO, bZ, bA⟩ := alloc4 w (.cells #[.slice A0 rs.length c0, .slice A1 hs.length c1, .slice A2 os.length c2, .slice A3 ds.length c3, .int .u64 ver] 28) (.cells #[.int .i64 3, .int .u64 t.f0, .int .u64 t.f1, .string key, .slice A4 ps.length c4, .bool cm, .slice A5 n5 c5] 34) (.cells #[.slice none 0 0, .slice none 0 0, .slice none 0 0, .slice none 0 0, .int .u64 0] 28) (.cells #[.int .i64 0, .string ⟨#[]⟩, .int .u64 0, .bool false, .bool false] 38)
  have hb4 : Below w.heap.size w ((((w.alloc (.cells #[.slice A0 rs.length c0, .slice A1 hs.length c1, .slice A2 os.length c2, .slice A3 ds.length c3, .int .u64 ver] 28)).alloc (.cells #[.int .i64 3, .int .u64 t.f0, .int .u64 t.f1, .string key, .slice A4 ps.length c4, .bool cm, .slice A5 n5 c5] 34)).alloc (.cells #[.slice none 0 0, .slice none 0 0, .slice none 0 0, .slice none 0 0, .int .u64 0] 28)).alloc (.cells #[.int .i64 0, .string ⟨#[]⟩, .int .u64 0, .bool false, .bool false] 38)) := ((((Below.refl w.heap.size w).alloc (Nat.le_refl _) _).alloc (by simp) _).alloc (by simp; omega) _).alloc (by simp; omega) _
  have HW4 : Aside0 (((((w.alloc (.cells #[.slice A0 rs.length c0, .slice A1 hs.length c1, .slice A2 os.length c2, .slice A3 ds.length c3, .int .u64 ver] 28)).alloc (.cells #[.int .i64 3, .int .u64 t.f0, .int .u64 t.f1, .string key, .slice A4 ps.length c4, .bool cm, .slice A5 n5 c5] 34)).alloc (.cells #[.slice none 0 0, .slice none 0 0, .slice none 0 0, .slice none 0 0, .int .u64 0] 28)).alloc (.cells #[.int .i64 0, .string ⟨#[]⟩, .int .u64 0, .bool false, .bool false] 38)).heap.size = w.heap.size + 1 + 1 + 1 + 1) := ⟨by simp⟩
  have BZ := Aside0.mk bZ
  have BA := Aside0.mk bA
  have HB4 := Aside0.mk hb4
  have HCA := Aside0.mk (hH _ hb4)
  clear hr0 hc0 hr1 hc1 hr2 hc2 hr3 hc3 hr4 hc4
  obtain ⟨hs0, hs1, hs2, hs3, hs4⟩ := cells_5 bS
  obtain ⟨ho0, ho1, ho2, ho3, ho4, ho5, ho6⟩ := cells_7 bO
  clear bS bO bZ bA hb4
  obtain ⟨ta, ti⟩ := t
  unfold shv at *
  dsimp only at *
  go_enter Try.func11, Try.ntmps11
  go_wp2_with (go_at_call 22; refine (HCA.out).mono ?_; intro e w5 hpost; obtain ⟨E0, n0', d0, E1, n1', d1, E2, n2', d2, E3, n3', d3, rfl, hv5, hb5⟩ := doOut hpost; clear hpost hs0 hs1 hs2 hs3 hs4 ho0 ho1 ho2 ho3 ho4 ho5 ho6; have ZB7 := Aside0.mk (stay hb5 BZ.out (by rw [HW4.out]; omega)); have AB7 := Aside0.mk (stay hb5 BA.out (by rw [HW4.out]; omega)); obtain ⟨hz0, hz1, hz2, hz3, hz4⟩ := cells_5 ZB7.out; obtain ⟨ha0, ha1, ha2, ha3, ha4⟩ := cells_5 AB7.out; obtain ⟨hy0, hy1, hy2, hy3, hy4⟩ := froz_5 ZB7.out; obtain ⟨hx0, hx1, hx2, hx3, hx4⟩ := froz_5 AB7.out; have HB7 := Aside0.mk (HB4.out.trans (hb5.mono HB4.out.size)); have HV5 := Aside0.mk hv5; clear hv5 hb5)
  refine twoBoxes rfl rfl rfl rfl ZB7.out AB7.out (by omega) ?_
  exact ⟨_, rfl, put5_z HV5.out ZB7.out AB7.out _ _ _ _ _ _ _ _ _ _, put5_below (put5_below HB7.out (show w.heap.size ≤ w.heap.size + 1 + 1 by omega) _ _ _ _ _) (show w.heap.size ≤ w.heap.size + 1 + 1 + 1 by omega) _ _ _ _ _⟩
set_option maxRecDepth 100000 in
set_option maxHeartbeats 8000000 in
theorem do_finx (t : S30) (key : ByteArray) (A4 : Option Addr) (c4 : Nat) (cm : Bool) (A5 : Option Addr) (n5 c5 : Nat) (A0 : Option Addr) (c0 : Nat) (A1 : Option Addr) (c1 : Nat) (A2 : Option Addr) (c2 : Nat) (A3 : Option Addr) (c3 : Nat) (rs : List S50) (hs : List S75) (os : List S48) (ds : List S68) (ver : Int) (w : World) (hr0 : Kd.C k50 w A0 rs.length rs) (hc0 : rs.length ≤ c0) (hr1 : Kd.C k75 w A1 hs.length hs) (hc1 : hs.length ≤ c1) (hr2 : Kd.C k48 w A2 os.length os) (hc2 : os.length ≤ c2) (hr3 : Kd.C k68 w A3 ds.length ds) (hc3 : ds.length ≤ c3) (ps : List S54) (hr4 : Kd.C k54 w A4 ps.length ps) (hc4 : ps.length ≤ c4) (R : Shd × Ans) (hH : ∀ W, Below w.heap.size w W → Calls Try.prog 23 #[.agg (shv A0 rs.length c0 A1 hs.length c1 A2 os.length c2 A3 ds.length c3 ver), .agg #[.int .i64 4, .int .u64 t.f0, .int .u64 t.f1, .string key, .slice A4 ps.length c4, .bool cm, .slice A5 n5 c5]] W (DoPost W R)) :
    Calls Try.prog 11 #[.agg (shv A0 rs.length c0 A1 hs.length c1 A2 os.length c2 A3 ds.length c3 ver), .agg #[.int .i64 4, .int .u64 t.f0, .int .u64 t.f1, .string key, .slice A4 ps.length c4, .bool cm, .slice A5 n5 c5]] w (DoPost w R) := by
  obtain ⟨bS, bO, bZ, bA⟩ := alloc4 w (.cells #[.slice A0 rs.length c0, .slice A1 hs.length c1, .slice A2 os.length c2, .slice A3 ds.length c3, .int .u64 ver] 28) (.cells #[.int .i64 4, .int .u64 t.f0, .int .u64 t.f1, .string key, .slice A4 ps.length c4, .bool cm, .slice A5 n5 c5] 34) (.cells #[.slice none 0 0, .slice none 0 0, .slice none 0 0, .slice none 0 0, .int .u64 0] 28) (.cells #[.int .i64 0, .string ⟨#[]⟩, .int .u64 0, .bool false, .bool false] 38)
  have hb4 : Below w.heap.size w ((((w.alloc (.cells #[.slice A0 rs.length c0, .slice A1 hs.length c1, .slice A2 os.length c2, .slice A3 ds.length c3, .int .u64 ver] 28)).alloc (.cells #[.int .i64 4, .int .u64 t.f0, .int .u64 t.f1, .string key, .slice A4 ps.length c4, .bool cm, .slice A5 n5 c5] 34)).alloc (.cells #[.slice none 0 0, .slice none 0 0, .slice none 0 0, .slice none 0 0, .int .u64 0] 28)).alloc (.cells #[.int .i64 0, .string ⟨#[]⟩, .int .u64 0, .bool false, .bool false] 38)) := ((((Below.refl w.heap.size w).alloc (Nat.le_refl _) _).alloc (by simp) _).alloc (by simp; omega) _).alloc (by simp; omega) _
  have HW4 : Aside0 (((((w.alloc (.cells #[.slice A0 rs.length c0, .slice A1 hs.length c1, .slice A2 os.length c2, .slice A3 ds.length c3, .int .u64 ver] 28)).alloc (.cells #[.int .i64 4, .int .u64 t.f0, .int .u64 t.f1, .string key, .slice A4 ps.length c4, .bool cm, .slice A5 n5 c5] 34)).alloc (.cells #[.slice none 0 0, .slice none 0 0, .slice none 0 0, .slice none 0 0, .int .u64 0] 28)).alloc (.cells #[.int .i64 0, .string ⟨#[]⟩, .int .u64 0, .bool false, .bool false] 38)).heap.size = w.heap.size + 1 + 1 + 1 + 1) := ⟨by simp⟩
  have BZ := Aside0.mk bZ
  have BA := Aside0.mk bA
  have HB4 := Aside0.mk hb4
  have HCA := Aside0.mk (hH _ hb4)
  clear hr0 hc0 hr1 hc1 hr2 hc2 hr3 hc3 hr4 hc4
  obtain ⟨hs0, hs1, hs2, hs3, hs4⟩ := cells_5 bS
  obtain ⟨ho0, ho1, ho2, ho3, ho4, ho5, ho6⟩ := cells_7 bO
  clear bS bO bZ bA hb4
  obtain ⟨ta, ti⟩ := t
  unfold shv at *
  dsimp only at *
  go_enter Try.func11, Try.ntmps11
  go_wp2_with (go_at_call 23; refine (HCA.out).mono ?_; intro e w5 hpost; obtain ⟨E0, n0', d0, E1, n1', d1, E2, n2', d2, E3, n3', d3, rfl, hv5, hb5⟩ := doOut hpost; clear hpost hs0 hs1 hs2 hs3 hs4 ho0 ho1 ho2 ho3 ho4 ho5 ho6; have ZB7 := Aside0.mk (stay hb5 BZ.out (by rw [HW4.out]; omega)); have AB7 := Aside0.mk (stay hb5 BA.out (by rw [HW4.out]; omega)); obtain ⟨hz0, hz1, hz2, hz3, hz4⟩ := cells_5 ZB7.out; obtain ⟨ha0, ha1, ha2, ha3, ha4⟩ := cells_5 AB7.out; obtain ⟨hy0, hy1, hy2, hy3, hy4⟩ := froz_5 ZB7.out; obtain ⟨hx0, hx1, hx2, hx3, hx4⟩ := froz_5 AB7.out; have HB7 := Aside0.mk (HB4.out.trans (hb5.mono HB4.out.size)); have HV5 := Aside0.mk hv5; clear hv5 hb5)
  refine twoBoxes rfl rfl rfl rfl ZB7.out AB7.out (by omega) ?_
  exact ⟨_, rfl, put5_z HV5.out ZB7.out AB7.out _ _ _ _ _ _ _ _ _ _, put5_below (put5_below HB7.out (show w.heap.size ≤ w.heap.size + 1 + 1 by omega) _ _ _ _ _) (show w.heap.size ≤ w.heap.size + 1 + 1 + 1 by omega) _ _ _ _ _⟩
theorem dox1 (W : World) : Calls Try.prog 11 #[.agg #[.slice none 0 0, .slice none 0 0, .slice none 0 0, .slice none 0 0, .int .u64 0], .agg #[.int .i64 2, .int .u64 exT.f0, .int .u64 exT.f1, .string ⟨#[97]⟩, .slice none 0 0, .bool false, .slice none 0 0]] W (DoPost W ex1) := by
  refine do_ask2x exT ⟨#[97]⟩ none 0 false none 0 0 none 0 none 0 none 0 none 0 [] [] [] [] 0 W (Kd.C_nil _ _) (Nat.le_refl _) (Kd.C_nil _ _) (Nat.le_refl _) (Kd.C_nil _ _) (Nat.le_refl _) (Kd.C_nil _ _) (Nat.le_refl _) [] (Kd.C_nil _ _) (Nat.le_refl _) ex1 (fun W' hb => ?_)
  rw [ex1_val]
  exact asks_ok_none_f 2 exT ⟨#[97]⟩ none 0 0 false none 0 0 none 0 none 0 none 0 none 0 [] [] [] [] 0 W' (Kd.C_nil _ _) (Nat.le_refl _) (Kd.C_nil _ _) (Nat.le_refl _) (Kd.C_nil _ _) (Nat.le_refl _) (Kd.C_nil _ _) (Nat.le_refl _) (by decide) (by decide) (by decide) (by kernel_rfl) (by decide) (by decide) (by decide) (fun _ h => by cases h) (fun _ h => by cases h) [⟨⟨#[97]⟩, exT, true⟩] [] (by kernel_rfl) ⟨#[]⟩ ⟨#[]⟩ 0 (by kernel_rfl)
theorem dox_open {W : World} {q : Nat} {s : Shd} (h : ShdAt W q s) : ∃ (A0 : Option Addr) (n0 c0 : Nat) (A1 : Option Addr) (n1 c1 : Nat) (A2 : Option Addr) (n2 c2 : Nat) (A3 : Option Addr) (n3 c3 : Nat), W.heap[q]? = some (.cells #[.slice A0 n0 c0, .slice A1 n1 c1, .slice A2 n2 c2, .slice A3 n3 c3, .int .u64 s.ver] 28 (0, 0)) ∧ (n0 = s.rows.length ∧ n1 = s.holds.length ∧ n2 = s.opens.length ∧ n3 = s.dones.length) ∧ (Kd.C k50 W A0 s.rows.length s.rows ∧ s.rows.length ≤ c0) ∧ (Kd.C k75 W A1 s.holds.length s.holds ∧ s.holds.length ≤ c1) ∧ (Kd.C k48 W A2 s.opens.length s.opens ∧ s.opens.length ≤ c2) ∧ (Kd.C k68 W A3 s.dones.length s.dones ∧ s.dones.length ≤ c3) := by
  obtain ⟨A0, c0, A1, c1, A2, c2, A3, c3, h, a, b, c, d⟩ := h
  exact ⟨A0, _, c0, A1, _, c1, A2, _, c2, A3, _, c3, h, ⟨rfl, rfl, rfl, rfl⟩, a, b, c, d⟩
theorem dox2_at {W : World} {q : Nat} (h : ShdAt W q ex1.1) : ∃ (A0 : Option Addr) (n0 c0 : Nat) (A1 : Option Addr) (n1 c1 : Nat) (A2 : Option Addr) (n2 c2 : Nat) (A3 : Option Addr) (n3 c3 : Nat), W.heap[q]? = some (.cells #[.slice A0 n0 c0, .slice A1 n1 c1, .slice A2 n2 c2, .slice A3 n3 c3, .int .u64 ex1.1.ver] 28 (0, 0)) ∧
    ∀ (A4 : Option Addr) (W' : World), Kd.C k54 W' A4 1 exP → Below W.heap.size W W' →
      Calls Try.prog 11 #[.agg #[.slice A0 n0 c0, .slice A1 n1 c1, .slice A2 n2 c2, .slice A3 n3 c3, .int .u64 ex1.1.ver], .agg #[.int .i64 3, .int .u64 exT.f0, .int .u64 exT.f1, .string ⟨#[]⟩, .slice A4 1 1, .bool false, .slice none 0 0]] W' (DoPost W' ex2) := by
  obtain ⟨A0, n0, c0, A1, n1, c1, A2, n2, c2, A3, n3, c3, hh, ⟨e0, e1, e2, e3⟩, ⟨a, a'⟩, ⟨b, b'⟩, ⟨c, c'⟩, ⟨d, d'⟩⟩ := dox_open h
  subst e0 e1 e2 e3
  refine ⟨A0, _, c0, A1, _, c1, A2, _, c2, A3, _, c3, hh, fun A4 W' hr hb => ?_⟩
  clear hh h
  rw [ex1_val] at *
  dsimp only at *
  refine do_prepx exT ⟨#[]⟩ A4 1 false none 0 0 A0 c0 A1 c1 A2 c2 A3 c3 _ _ _ _ 0 W' (Kd.C_below a hb) a' (Kd.C_below b hb) b' (Kd.C_below c hb) c' (Kd.C_below d hb) d' exP hr (Nat.le_refl _) ex2 (fun W2 hb2 => ?_)
  rw [ex2_val]
  exact prep_ok 3 exT ⟨#[]⟩ A4 1 1 false none 0 0 A0 c0 A1 c1 A2 c2 A3 c3 _ _ _ _ 0 W2 (Kd.C_below (Kd.C_below a hb) hb2) a' (Kd.C_below (Kd.C_below b hb) hb2) b' (Kd.C_below (Kd.C_below c hb) hb2) c' (Kd.C_below (Kd.C_below d hb) hb2) d' (by decide) 0 (by decide) (by kernel_rfl) rfl rfl exP rfl (Kd.C_below hr hb2) (Nat.le_refl _) (by kernel_rfl) (by kernel_rfl) (by decide) (fun _ h => by cases h) (fun x hx p hp => by simp at hx; subst hx; cases hp) (fun p hp => by simp [exP] at hp; subst hp; decide) (by rw [show keysV [] [⟨exT, false, false, []⟩] exP = 1 from by kernel_rfl]; decide) (by decide) (by decide)
theorem dox3_at {W : World} {q : Nat} (h : ShdAt W q ex2.1) : ∃ (A0 : Option Addr) (n0 c0 : Nat) (A1 : Option Addr) (n1 c1 : Nat) (A2 : Option Addr) (n2 c2 : Nat) (A3 : Option Addr) (n3 c3 : Nat), W.heap[q]? = some (.cells #[.slice A0 n0 c0, .slice A1 n1 c1, .slice A2 n2 c2, .slice A3 n3 c3, .int .u64 ex2.1.ver] 28 (0, 0)) ∧
    ∀ (W' : World), Below W.heap.size W W' →
      Calls Try.prog 11 #[.agg #[.slice A0 n0 c0, .slice A1 n1 c1, .slice A2 n2 c2, .slice A3 n3 c3, .int .u64 ex2.1.ver], .agg #[.int .i64 4, .int .u64 exT.f0, .int .u64 exT.f1, .string ⟨#[]⟩, .slice none 0 0, .bool true, .slice none 0 0]] W' (DoPost W' ex3) := by
  obtain ⟨A0, n0, c0, A1, n1, c1, A2, n2, c2, A3, n3, c3, hh, ⟨e0, e1, e2, e3⟩, ⟨a, a'⟩, ⟨b, b'⟩, ⟨c, c'⟩, ⟨d, d'⟩⟩ := dox_open h
  subst e0 e1 e2 e3
  refine ⟨A0, _, c0, A1, _, c1, A2, _, c2, A3, _, c3, hh, fun W' hb => ?_⟩
  clear hh h
  rw [ex2_val] at *
  dsimp only at *
  refine do_finx exT ⟨#[]⟩ none 0 true none 0 0 A0 c0 A1 c1 A2 c2 A3 c3 _ _ _ _ 0 W' (Kd.C_below a hb) a' (Kd.C_below b hb) b' (Kd.C_below c hb) c' (Kd.C_below d hb) d' [] (Kd.C_nil _ _) (Nat.le_refl _) ex3 (fun W2 hb2 => ?_)
  rw [ex3_val]
  exact fin_commit 4 exT ⟨#[]⟩ none 0 0 true none 0 0 A0 c0 A1 c1 A2 c2 A3 c3 _ _ _ _ 0 W2 (Kd.C_below (Kd.C_below a hb) hb2) a' (Kd.C_below (Kd.C_below b hb) hb2) b' (Kd.C_below (Kd.C_below c hb) hb2) c' (Kd.C_below (Kd.C_below d hb) hb2) d' (by decide) 0 (by decide) (by kernel_rfl) rfl false rfl rfl (by simp [exP]) 1 (by decide) [⟨⟨#[97]⟩, ⟨#[49]⟩, 1⟩] 0 (by kernel_rfl) (by decide) (by decide) (by decide) rfl
theorem dox4_at {W : World} {q : Nat} (h : ShdAt W q ex3.1) : ∃ (A0 : Option Addr) (n0 c0 : Nat) (A1 : Option Addr) (n1 c1 : Nat) (A2 : Option Addr) (n2 c2 : Nat) (A3 : Option Addr) (n3 c3 : Nat), W.heap[q]? = some (.cells #[.slice A0 n0 c0, .slice A1 n1 c1, .slice A2 n2 c2, .slice A3 n3 c3, .int .u64 ex3.1.ver] 28 (0, 0)) ∧
    ∀ (W' : World), Below W.heap.size W W' →
      Calls Try.prog 11 #[.agg #[.slice A0 n0 c0, .slice A1 n1 c1, .slice A2 n2 c2, .slice A3 n3 c3, .int .u64 ex3.1.ver], .agg #[.int .i64 4, .int .u64 exT.f0, .int .u64 exT.f1, .string ⟨#[]⟩, .slice none 0 0, .bool false, .slice none 0 0]] W' (DoPost W' ex4) := by
  obtain ⟨A0, n0, c0, A1, n1, c1, A2, n2, c2, A3, n3, c3, hh, ⟨e0, e1, e2, e3⟩, ⟨a, a'⟩, ⟨b, b'⟩, ⟨c, c'⟩, ⟨d, d'⟩⟩ := dox_open h
  subst e0 e1 e2 e3
  refine ⟨A0, _, c0, A1, _, c1, A2, _, c2, A3, _, c3, hh, fun W' hb => ?_⟩
  clear hh h
  have e4 : ex4 = (⟨[⟨⟨#[97]⟩, ⟨#[49]⟩, 1⟩], [], [], [⟨exT, true⟩], 1⟩, ⟨13, ⟨#[]⟩, 0, false, true⟩) := by
    unfold ex4
    rw [ex3_val]
    kernel_rfl
  rw [ex3_val] at *
  dsimp only at *
  refine do_finx exT ⟨#[]⟩ none 0 false none 0 0 A0 c0 A1 c1 A2 c2 A3 c3 _ _ _ _ 1 W' (Kd.C_below a hb) a' (Kd.C_below b hb) b' (Kd.C_below c hb) c' (Kd.C_below d hb) d' [] (Kd.C_nil _ _) (Nat.le_refl _) ex4 (fun W2 hb2 => ?_)
  rw [e4]
  exact fin_over_other 4 exT ⟨#[]⟩ none 0 0 false none 0 0 A0 c0 A1 c1 A2 c2 A3 c3 _ _ _ _ 1 W2 (Kd.C_below (Kd.C_below a hb) hb2) a' (Kd.C_below (Kd.C_below b hb) hb2) b' (Kd.C_below (Kd.C_below c hb) hb2) c' (Kd.C_below (Kd.C_below d hb) hb2) d' (by decide) (by decide)
end Go.Proofs.Ytmcgcdpiceikeaa.PAll
end
