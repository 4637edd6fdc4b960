/- Joined texts of the claim ShardRight (part 19): contracts of functions and plain laws. -/
import Derived.Test.YtmcgcdpiceikeaaJShardRight15
import Derived.Test.YtmcgcdpiceikeaaJShardRight18
import Derived.DeepKeys4
import Derived.ProofKit
import Derived.Test.YtmcgcdpiceikeaaJShardRight14
section
/- shard.keys. -/
namespace Go.Proofs.Ytmcgcdpiceikeaa.PAll
open Go.RowKit Go.WideMaps Go.Maps Go.Proofs.YtmcgcdpiceikeaaW.PrintWords Go.Proofs.YtmcgcdpiceikeaaW.PrintMore Go.Proofs.Ytmcgcdpiceikeaa
set_option linter.unusedVariables false
theorem cell_grown_u {w w' : World} {row : Option Nat} {b i : Nat} {v : Value} (h : w.cell? ⟨b, i, none⟩ = some v) (hg : w.grownBy w' row) (hne : some b ≠ row) : w'.cell? ⟨b, i, none⟩ = some v := by
  have := hg.block b (World.block_lt_of_cell? _ _ h) hne
  unfold World.cell? at *
  dsimp only at *
  rw [this]
  exact h
def addPuts (acc : List ByteArray) (l : List S54) : List ByteArray := l.foldl (fun a p => if p.f2 then a else withV a p.f0) acc
theorem addPuts_step (acc : List ByteArray) (l : List S54) (j : Nat) (hj : j < l.length) : addPuts acc (l.take (j + 1)) = if (l[j]!).f2 then addPuts acc (l.take j) else withV (addPuts acc (l.take j)) (l[j]!).f0 := by
  unfold addPuts
  rw [List.take_succ_eq_append_getElem hj, List.foldl_append, getElem!_pos l j hj]
  rfl
theorem withV_out {l : List ByteArray} {k : ByteArray} (h : ¬ k ∈ l) : withV l k = l ++ [k] := if_neg h
theorem withV_in {l : List ByteArray} {k : ByteArray} (h : k ∈ l) : withV l k = l := if_pos h
theorem cellOld {w : World} {b i : Nat} {v : Value} {o : Obj} (h : w.cell? ⟨b, i, none⟩ = some v) : (w.alloc o).cell? ⟨b, i, none⟩ = some v := cell_grown_u h (World.grownBy_alloc w o none) (by simp)
set_option maxRecDepth 100000 in
set_option maxHeartbeats 4000000 in
theorem shardKeys1 (Bs mb n : Nat) (A : Option Addr) (c : Nat) (l : List S54) (acc : List ByteArray) (w0 w : World) (hr : Kd.C k54 w0 A l.length l) (hb : Below w0.heap.size w0 w) (hmb : w0.heap.size ≤ mb) (hne : Bs ≠ mb) (hset : w.cell? ⟨Bs, 0, none⟩ = some (.map (some mb))) (hm : KeySet w mb n acc)
    (hn : n + l.length ≤ maxLen) (hks : ∀ p ∈ l, p.f0.size ≤ maxLen) :
    Calls Try.prog 79 #[.slice A l.length c, .pointer (some ⟨Bs, 0, none⟩)] w fun e w' => (∃ v, e = .returned v) ∧ KeySet w' mb (n + l.length) (addPuts acc l) ∧ w.grownBy w' (some mb) := by
  have HR := Aside0.mk hr
  have HB := Aside0.mk hb
  have HMB := Aside0.mk hmb
  have HSET := Aside0.mk hset
  have HM := Aside0.mk hm
  have HN := Aside0.mk hn
  have HKS := Aside0.mk hks
  have HNE := Aside0.mk hne
  clear hr hb hmb hset hm hn hks hne
  go_enter Try.func79, Try.ntmps79
  go_wp2
  go_loopg [8] l.length (fun gg s8 wr => ∃ jj : Nat, jj ≤ l.length ∧ l.length - jj ≤ gg ∧ s8 = .int .i64 jj ∧ Aside0 (w.grownBy wr (some mb)) ∧ Aside0 (KeySet wr mb (n + jj) (addPuts acc (l.take jj))))
  case atStart => exact ⟨0, Nat.zero_le _, by omega, rfl, ⟨World.grownBy.refl _ _⟩, ⟨HM.out⟩⟩
  case round =>
    obtain ⟨jj, hjj, hgk, rfl, BG, BM⟩ := hrel
    have hsetr := cell_grown_u HSET.out BG.out (fun e => HNE.out (Option.some.inj e))
    have hll : l.length ≤ 9223372036854775807 := HR.out.2.1
    by_cases hlt : jj < l.length
    · have hltz : (jj : Int) < (l.length : Int) := by omega
      obtain ⟨b, o, rfl, hrow⟩ := C_row (Kd.C_below HR.out (HB.out.grown BG.out HB.out.size (fun k e => by cases e; exact HMB.out))) (by decide) (by omega)
      obtain ⟨cs, hcs, hK, hrg⟩ := hrow jj hlt
      obtain rfl := flat54.openK _ _ _ hK
      have hc0_ : wr.cell? ⟨b, o + jj * 3, none⟩ = some (.string (l[jj]!).f0) := hrg 0 _ rfl
      have hc1_ : wr.cell? ⟨b, o + jj * 3 + 1, none⟩ = some (.string (l[jj]!).f1) := hrg 1 _ rfl
      have hc2_ : wr.cell? ⟨b, o + jj * 3 + 2, none⟩ = some (.bool (l[jj]!).f2) := hrg 2 _ rfl
      have HS := Aside0.mk (addPuts_step acc l jj hlt)
      have HKX : Aside0 ((l[jj]!).f0.size ≤ maxLen) := ⟨HKS.out _ (by rw [getElem!_pos l jj hlt]; exact List.getElem_mem _)⟩
      have HML := Aside0.mk BM.out.lt
      clear hrow hrg hK hcs
      generalize l[jj]! = x at *
      obtain ⟨xk, xv, xg⟩ := x
      dsimp only at *
      have HBX := Aside0.mk (heap_alloc_new wr (.cells #[.string xk, .string xv, .bool xg] 54))
      have HM1 := Aside0.mk (BM.out.grown (World.grownBy_alloc wr (.cells #[.string xk, .string xv, .bool xg] 54) none) (by simp))
      have HG1 := Aside0.mk (BG.out.trans (World.grownBy_alloc wr (.cells #[.string xk, .string xv, .bool xg] 54) (some mb)))
      have hlk := HM1.out.lookup Try.underlying113 xk HKX.out
      have hset1 := cellOld (o := .cells #[.string xk, .string xv, .bool xg] 54) hsetr
      clear hsetr
      by_cases hin : xk ∈ addPuts acc (l.take jj)
      · rw [decide_eq_true hin] at hlk
        have HIN := Aside0.mk hin
        clear hin
        cases xg with
        | false =>
          go_wp2_with (at_mapUpdate; refine wpList_put_key _ rfl _ _ _ 113 rfl Try.underlying113 rfl HM1.out (by have := HN.out; omega) xk rfl rfl HKX.out ?_; intro w2 hM2 hg2; have HM2 := Aside0.mk hM2; have HG2 := Aside0.mk hg2; have hset2 := cell_grown_u hset1 hg2 (fun e => HNE.out (Option.some.inj e)); have hbx2 := (hg2.block wr.heap.size (by simp) (fun e => by have := Option.some.inj e; have := HML.out; omega)).trans HBX.out; have hx0 : w2.cell? ⟨wr.heap.size, 0, none⟩ = some (.string xk) := cell_row (cs := [.string xk, .string xv, .bool false]) hbx2 0; have hx1 : w2.cell? ⟨wr.heap.size, 1, none⟩ = some (.string xv) := cell_row (cs := [.string xk, .string xv, .bool false]) hbx2 1; have hx2 : w2.cell? ⟨wr.heap.size, 2, none⟩ = some (.bool false) := cell_row (cs := [.string xk, .string xv, .bool false]) hbx2 2; clear hM2 hg2 hbx2)
          go_roundg (l.length - (jj + 1))
          case measure => omega
          case rel => exact ⟨jj + 1, by omega, by omega, by go_num, ⟨HG1.out.trans HG2.out⟩, ⟨by rw [HS.out]; have h := HM2.out; first | exact h | (rw [withV_in HIN.out] at h; exact h)⟩⟩
        | true =>
          go_wp2_with (at_mapUpdate; refine wpList_put_key _ rfl _ _ _ 113 rfl Try.underlying113 rfl HM1.out (by have := HN.out; omega) xk rfl rfl HKX.out ?_; intro w2 hM2 hg2; have HM2 := Aside0.mk hM2; have HG2 := Aside0.mk hg2; have hset2 := cell_grown_u hset1 hg2 (fun e => HNE.out (Option.some.inj e)); have hbx2 := (hg2.block wr.heap.size (by simp) (fun e => by have := Option.some.inj e; have := HML.out; omega)).trans HBX.out; have hx0 : w2.cell? ⟨wr.heap.size, 0, none⟩ = some (.string xk) := cell_row (cs := [.string xk, .string xv, .bool true]) hbx2 0; have hx1 : w2.cell? ⟨wr.heap.size, 1, none⟩ = some (.string xv) := cell_row (cs := [.string xk, .string xv, .bool true]) hbx2 1; have hx2 : w2.cell? ⟨wr.heap.size, 2, none⟩ = some (.bool true) := cell_row (cs := [.string xk, .string xv, .bool true]) hbx2 2; clear hM2 hg2 hbx2)
          go_roundg (l.length - (jj + 1))
          case measure => omega
          case rel => exact ⟨jj + 1, by omega, by omega, by go_num, ⟨HG1.out.trans HG2.out⟩, ⟨by rw [HS.out]; have h := HM2.out; first | exact h | (rw [withV_in HIN.out] at h; exact h)⟩⟩
      · rw [decide_eq_false hin] at hlk
        have HIN := Aside0.mk hin
        clear hin
        cases xg with
        | false =>
          go_wp2_with (at_mapUpdate; refine wpList_put_key _ rfl _ _ _ 113 rfl Try.underlying113 rfl HM1.out (by have := HN.out; omega) xk rfl rfl HKX.out ?_; intro w2 hM2 hg2; have HM2 := Aside0.mk hM2; have HG2 := Aside0.mk hg2; have hset2 := cell_grown_u hset1 hg2 (fun e => HNE.out (Option.some.inj e)); have hbx2 := (hg2.block wr.heap.size (by simp) (fun e => by have := Option.some.inj e; have := HML.out; omega)).trans HBX.out; have hx0 : w2.cell? ⟨wr.heap.size, 0, none⟩ = some (.string xk) := cell_row (cs := [.string xk, .string xv, .bool false]) hbx2 0; have hx1 : w2.cell? ⟨wr.heap.size, 1, none⟩ = some (.string xv) := cell_row (cs := [.string xk, .string xv, .bool false]) hbx2 1; have hx2 : w2.cell? ⟨wr.heap.size, 2, none⟩ = some (.bool false) := cell_row (cs := [.string xk, .string xv, .bool false]) hbx2 2; clear hM2 hg2 hbx2)
          go_roundg (l.length - (jj + 1))
          case measure => omega
          case rel => exact ⟨jj + 1, by omega, by omega, by go_num, ⟨HG1.out.trans HG2.out⟩, ⟨by rw [HS.out]; exact HM2.out⟩⟩
        | true =>
          go_wp2_with (first
            | (at_mapUpdate; refine wpList_put_key _ rfl _ _ _ 113 rfl Try.underlying113 rfl HM1.out (by have := HN.out; omega) xk rfl rfl HKX.out ?_; intro w2 hM2 hg2; have HM2 := Aside0.mk hM2; have HG2 := Aside0.mk hg2; have hset2 := cell_grown_u hset1 hg2 (fun e => HNE.out (Option.some.inj e)); have hbx2 := (hg2.block wr.heap.size (by simp) (fun e => by have := Option.some.inj e; have := HML.out; omega)).trans HBX.out; have hx0 : w2.cell? ⟨wr.heap.size, 0, none⟩ = some (.string xk) := cell_row (cs := [.string xk, .string xv, .bool true]) hbx2 0; have hx1 : w2.cell? ⟨wr.heap.size, 1, none⟩ = some (.string xv) := cell_row (cs := [.string xk, .string xv, .bool true]) hbx2 1; have hx2 : w2.cell? ⟨wr.heap.size, 2, none⟩ = some (.bool true) := cell_row (cs := [.string xk, .string xv, .bool true]) hbx2 2; clear hM2 hg2 hbx2)
            | (have HMW := Aside0.mk HM2.out; rw [withV_out HIN.out] at HMW; ((with_reducible refine gate_builtin (b := .delete) (xs := #[.tmp 25, .tmp 27]) rfl ?_); refine wpList_del_key _ rfl _ _ 113 rfl Try.underlying113 rfl xk HMW.out rfl HKX.out ?_; intro w3 hM3 hg3; have HM3 := Aside0.mk hM3; have HG3 := Aside0.mk hg3; clear hM3 hg3)))
          go_roundg (l.length - (jj + 1))
          case measure => omega
          case rel => exact ⟨jj + 1, by omega, by omega, by go_num, ⟨(HG1.out.trans HG2.out).trans HG3.out⟩, ⟨by rw [HS.out]; exact HM3.out⟩⟩
    · have hltz : ¬ (jj : Int) < (l.length : Int) := by omega
      obtain rfl : jj = l.length := by omega
      go_wp2
      refine bodyPost_end (results_none rfl _ _ _) rfl ?_
      exact ⟨⟨_, rfl⟩, by have := BM.out; rwa [List.take_length] at this, BG.out⟩
end Go.Proofs.Ytmcgcdpiceikeaa.PAll
end
section
/- shard.keys, whole. -/
namespace Go.Proofs.Ytmcgcdpiceikeaa.PAll
open Go.RowKit Go.WideMaps Go.Maps Go.Proofs.YtmcgcdpiceikeaaW.PrintWords Go.Proofs.YtmcgcdpiceikeaaW.PrintMore Go.Proofs.Ytmcgcdpiceikeaa
set_option linter.unusedVariables false
theorem wpList_len_key {w : World} {b n : Nat} {acc : List ByteArray} {ops : Array Oper} {rest : List Oper} {o : Oper} {a : Act} {Q : Exit → Act → World → Prop} (hg : o.guard = none) (m : Operand) (mt : TypeId) (hop : o.op = Op.call { callee := Callee.builtin Builtin.len, args := #[m], argTypes := #[mt] })
    (ht : Try.prog.underlying mt = some (.map 9 4)) (hm : a.eval m = .map (some b)) (h : KeySet w b n acc)
    (hK : wpList Try.prog ops Q rest (a.put o.dst (.int .i64 acc.length)) w) : wpList Try.prog ops Q (o :: rest) a w := by
  obtain ⟨_, D, h1, _, _, h4⟩ := h
  exact wpList_len_own _ hg m mt hop 9 4 ht _ b n D hm h1 (by rw [h4]; exact hK)
def rowKeys (l : List S50) : List ByteArray := l.foldl (fun a r => withV a r.f0) []
def openKeys (acc : List ByteArray) (l : List S48) : List ByteArray := l.foldl (fun a x => if x.f1 then addPuts a x.f3 else a) acc
def openCount (l : List S48) : Nat := (l.map (fun x => x.f3.length)).sum
def keysV (r : List S50) (l : List S48) (more : List S54) : Nat := (addPuts (openKeys (rowKeys r) l) more).length
theorem rowKeys_step (l : List S50) (j : Nat) (hj : j < l.length) : rowKeys (l.take (j + 1)) = withV (rowKeys (l.take j)) (l[j]!).f0 := by
  unfold rowKeys
  rw [List.take_succ_eq_append_getElem hj, List.foldl_append, getElem!_pos l j hj]
  rfl
theorem openKeys_step (acc : List ByteArray) (l : List S48) (j : Nat) (hj : j < l.length) : openKeys acc (l.take (j + 1)) = if (l[j]!).f1 then addPuts (openKeys acc (l.take j)) (l[j]!).f3 else openKeys acc (l.take j) := by
  unfold openKeys
  rw [List.take_succ_eq_append_getElem hj, List.foldl_append, getElem!_pos l j hj]
  rfl
theorem openCount_step (l : List S48) (j : Nat) (hj : j < l.length) : openCount (l.take (j + 1)) = openCount (l.take j) + (l[j]!).f3.length := by
  unfold openCount
  rw [List.take_succ_eq_append_getElem hj, List.map_append, List.sum_append, getElem!_pos l j hj]
  simp
theorem openCount_le (l : List S48) (j : Nat) (hj : j < l.length) : openCount (l.take j) + (l[j]!).f3.length ≤ openCount l := by
  rw [← openCount_step l j hj]
  unfold openCount
  conv => rhs; rw [← List.take_append_drop (j + 1) l, List.map_append, List.sum_append]
  omega
theorem rowRow {W : World} {l : List S50} {A : Option Addr} (h : Kd.C k50 W A l.length l) (j : Nat) (hj : j < l.length) : ∃ b o, A = some ⟨b, o, none⟩ ∧ W.cell? ⟨b, o + j * 3, none⟩ = some (.string (l[j]!).f0) ∧ W.cell? ⟨b, o + j * 3 + 1, none⟩ = some (.string (l[j]!).f1) ∧ W.cell? ⟨b, o + j * 3 + 2, none⟩ = some (.int .u64 (l[j]!).f2) := by
  obtain ⟨b, o, rfl, hrow⟩ := C_row h (by decide) (by omega)
  obtain ⟨cs, hcs, hK, hrg⟩ := hrow j hj
  obtain rfl := flat50.openK _ _ _ hK
  exact ⟨b, o, rfl, hrg 0 _ rfl, hrg 1 _ rfl, hrg 2 _ rfl⟩
theorem openRow {W : World} {l : List S48} {A : Option Addr} (h : Kd.C k48 W A l.length l) (j : Nat) (hj : j < l.length) : ∃ b o, A = some ⟨b, o, none⟩ ∧ ∃ B c, (l[j]!).f3.length ≤ c ∧ Kd.C k54 W B (l[j]!).f3.length (l[j]!).f3 ∧ W.cell? ⟨b, o + j * 5, none⟩ = some (.int .u64 (l[j]!).f0.f0) ∧ W.cell? ⟨b, o + j * 5 + 1, none⟩ = some (.int .u64 (l[j]!).f0.f1) ∧ W.cell? ⟨b, o + j * 5 + 2, none⟩ = some (.bool (l[j]!).f1) ∧ W.cell? ⟨b, o + j * 5 + 3, none⟩ = some (.bool (l[j]!).f2) ∧ W.cell? ⟨b, o + j * 5 + 4, none⟩ = some (.slice B (l[j]!).f3.length c) := by
  obtain ⟨b, o, rfl, hrow⟩ := C_row h (by decide) (by omega)
  obtain ⟨cs, hcs, hK, hrg⟩ := hrow j hj
  obtain ⟨B, c, rfl, h1, h2⟩ := openCells hK
  exact ⟨b, o, rfl, B, c, h1, h2, hrg 0 _ rfl, hrg 1 _ rfl, hrg 2 _ rfl, hrg 3 _ rfl, hrg 4 _ rfl⟩
theorem alloc3b (w : World) (o1 o2 o3 : Obj) : (((w.alloc o1).alloc o2).alloc o3).heap[w.heap.size]? = some o1 := by
  have h := heap_alloc_new w o1
  have h2 := (World.grownBy_alloc (w.alloc o1) o2 none).block w.heap.size (by simp) (by simp)
  have h3 := (World.grownBy_alloc ((w.alloc o1).alloc o2) o3 none).block w.heap.size (by simp; omega) (by simp)
  rw [h3, h2, h]
set_option maxRecDepth 100000 in
set_option maxHeartbeats 4000000 in
theorem shardKeys_calls (A0 : Option Addr) (c0 : Nat) (A1 : Option Addr) (n1 c1 : Nat) (A2 : Option Addr) (c2 : Nat) (A3 : Option Addr) (n3 c3 : Nat) (A4 : Option Addr) (c4 : Nat) (ver : Int) (rs : List S50) (l : List S48) (more : List S54) (w : World)
    (hr0 : Kd.C k50 w A0 rs.length rs) (hr2 : Kd.C k48 w A2 l.length l) (hr4 : Kd.C k54 w A4 more.length more)
    (hn : rs.length + openCount l + more.length ≤ maxLen) (hk0 : ∀ r ∈ rs, r.f0.size ≤ maxLen) (hk2 : ∀ x ∈ l, ∀ p ∈ x.f3, p.f0.size ≤ maxLen) (hk4 : ∀ p ∈ more, p.f0.size ≤ maxLen) :
    Calls Try.prog 44 #[.agg (shv A0 rs.length c0 A1 n1 c1 A2 l.length c2 A3 n3 c3 ver), .slice A4 more.length c4] w fun e w' => e = .returned (.int .i64 (keysV rs l more)) ∧ Below w.heap.size w w' := by
  have HR0 := Aside0.mk hr0
  have HR2 := Aside0.mk hr2
  have HR4 := Aside0.mk hr4
  have HN := Aside0.mk hn
  have HK0 := Aside0.mk hk0
  have HK2 := Aside0.mk hk2
  have HK4 := Aside0.mk hk4
  have hmm := @run_makeMap Try.prog
  clear hr0 hr2 hr4 hn hk0 hk2 hk4
  unfold shv
  go_enter Try.func44, Try.ntmps44
  go_wp2
  go_loopg [15] rs.length (fun gg s15 wr => ∃ jj : Nat, jj ≤ rs.length ∧ rs.length - jj ≤ gg ∧ s15 = .int .i64 jj ∧ Aside0 (Below w.heap.size w wr) ∧ Aside0 (wr.heap[w.heap.size]? = some (.cells #[.slice A0 rs.length c0, .slice A1 n1 c1, .slice A2 l.length c2, .slice A3 n3 c3, .int .u64 ver] 28 (0, 0))) ∧ Aside0 (wr.cell? ⟨w.heap.size + 1 + 1, 0, none⟩ = some (.map (some (w.heap.size + 1)))) ∧ Aside0 (KeySet wr (w.heap.size + 1) jj (rowKeys (rs.take jj))))
  case atStart =>
    have hM0 := World.ownsMap_made (H := Nat) (w.alloc (.cells #[.slice A0 rs.length c0, .slice A1 n1 c1, .slice A2 l.length c2, .slice A3 n3 c3, .int .u64 ver] 28)) Try.prog 9 (plainElem Try.prog 4)
    rw [World.size_alloc] at hM0
    exact ⟨0, Nat.zero_le _, by omega, rfl, ⟨(((Below.refl w.heap.size w).alloc (Nat.le_refl _) _).alloc (by simp) _).alloc (by simp; omega) _⟩, ⟨alloc3b _ _ _ _⟩, ⟨cell_row (cs := [.map (some (w.heap.size + 1))]) (alloc3 w _ _ _) 0⟩, ⟨(KeySet.made hM0).grown (World.grownBy_alloc _ _ none) (by simp)⟩⟩
  case round =>
    obtain ⟨jj, hjj, hgk, rfl, BB, BX, BS, BM⟩ := hrel
    have hll : rs.length ≤ 9223372036854775807 := HR0.out.2.1
    by_cases hlt : jj < rs.length
    · have hltz : (jj : Int) < (rs.length : Int) := by omega
      obtain ⟨b, o, rfl, hc0_, hc1_, hc2_⟩ := rowRow (Kd.C_below HR0.out BB.out) jj hlt
      have HS := Aside0.mk (rowKeys_step rs jj hlt)
      have HKX : Aside0 ((rs[jj]!).f0.size ≤ maxLen) := ⟨HK0.out _ (by rw [getElem!_pos rs jj hlt]; exact List.getElem_mem _)⟩
      have HML := Aside0.mk BM.out.lt
      have HRS := Aside0.mk hlt
      generalize rs[jj]! = x at *
      obtain ⟨xk, xv, xg⟩ := x
      dsimp only at *
      have HG1 := Aside0.mk (World.grownBy_alloc wr (.cells #[.string xk, .string xv, .int .u64 xg] 50) none)
      have HM1 := Aside0.mk (BM.out.grown HG1.out (by simp))
      have hset1 := cellOld (o := .cells #[.string xk, .string xv, .int .u64 xg] 50) BS.out
      go_wp2_with (at_mapUpdate; refine wpList_put_key _ rfl _ _ _ 113 rfl Try.underlying113 rfl HM1.out (by have := HN.out; have := HRS.out; omega) xk rfl rfl HKX.out ?_; intro w2 hM2 hg2; have HM2 := Aside0.mk hM2; have HG2 := Aside0.mk hg2; clear hM2 hg2)
      go_roundg (rs.length - (jj + 1))
      case measure => omega
      case rel => exact ⟨jj + 1, by omega, by omega, by go_num, ⟨(BB.out.alloc BB.out.size _).grown HG2.out (by simp; have := BB.out.size; omega) (fun k e => by cases e; omega)⟩, ⟨(HG2.out.block _ (by simp; have := BB.out.size; omega) (fun e => by have := Option.some.inj e; omega)).trans ((HG1.out.block _ (by have := BM.out.lt; omega) (by simp)).trans BX.out)⟩, ⟨cell_grown_u hset1 HG2.out (fun e => by have := Option.some.inj e; omega)⟩, ⟨by rw [HS.out]; exact HM2.out⟩⟩
    · have hltz : ¬ (jj : Int) < (rs.length : Int) := by omega
      obtain rfl : jj = rs.length := by omega
      rw [List.take_length] at BM
      have hb2_ : wr.cell? ⟨w.heap.size, 2, none⟩ = some (.slice A2 l.length c2) := cell_row (cs := [.slice A0 rs.length c0, .slice A1 n1 c1, .slice A2 l.length c2, .slice A3 n3 c3, .int .u64 ver]) BX.out 2
      clear hlt hjj hgk hll hltz
      go_wp2
      clear hb2_
      obtain ⟨wo, rfl⟩ : ∃ wo : World, wo = wr := ⟨_, rfl⟩
      go_loopg [27] l.length (fun gg s27 wr => ∃ jj : Nat, jj ≤ l.length ∧ l.length - jj ≤ gg ∧ s27 = .int .i64 jj ∧ Aside0 (Below w.heap.size w wr) ∧ Aside0 (wr.cell? ⟨w.heap.size + 1 + 1, 0, none⟩ = some (.map (some (w.heap.size + 1)))) ∧ Aside0 (KeySet wr (w.heap.size + 1) (rs.length + openCount (l.take jj)) (openKeys (rowKeys rs) (l.take jj))))
      case atStart => exact ⟨0, Nat.zero_le _, by omega, rfl, BB, BS, BM⟩
      case round =>
        obtain ⟨jj, hjj, hgk, rfl, BB, BS, BM⟩ := hrel
        have hll : l.length ≤ 9223372036854775807 := HR2.out.2.1
        by_cases hlt : jj < l.length
        · have hltz : (jj : Int) < (l.length : Int) := by omega
          obtain ⟨b, o, rfl, B, cp, hcp, hpr, hd0, hd1, hd2, hd3, hd4⟩ := openRow HR2.out jj hlt
          have hc0_ := (BB.out.cell (World.block_lt_of_cell? _ _ hd0)).trans hd0
          have hc1_ := (BB.out.cell (World.block_lt_of_cell? _ _ hd1)).trans hd1
          have hc2_ := (BB.out.cell (World.block_lt_of_cell? _ _ hd2)).trans hd2
          have hc3_ := (BB.out.cell (World.block_lt_of_cell? _ _ hd3)).trans hd3
          have hc4_ := (BB.out.cell (World.block_lt_of_cell? _ _ hd4)).trans hd4
          have HPR := Aside0.mk hpr
          have HS := Aside0.mk (openKeys_step (rowKeys rs) l jj hlt)
          have HS2 := Aside0.mk (openCount_step l jj hlt)
          have HS3 := Aside0.mk (openCount_le l jj hlt)
          have HKX : Aside0 (∀ p ∈ (l[jj]!).f3, p.f0.size ≤ maxLen) := ⟨HK2.out _ (by rw [getElem!_pos l jj hlt]; exact List.getElem_mem _)⟩
          have HML := Aside0.mk BM.out.lt
          clear hd0 hd1 hd2 hd3 hd4 hpr hcp
          generalize l[jj]! = x at *
          obtain ⟨⟨xa, xi⟩, xf, xw, xp⟩ := x
          dsimp only at *
          have HBX := Aside0.mk (heap_alloc_new wr (.cells #[.int .u64 xa, .int .u64 xi, .bool xf, .bool xw, .slice B xp.length cp] 48))
          have HG1 := Aside0.mk (World.grownBy_alloc wr (.cells #[.int .u64 xa, .int .u64 xi, .bool xf, .bool xw, .slice B xp.length cp] 48) none)
          have HM1 := Aside0.mk (BM.out.grown HG1.out (by simp))
          have HB1 := Aside0.mk (BB.out.alloc BB.out.size (.cells #[.int .u64 xa, .int .u64 xi, .bool xf, .bool xw, .slice B xp.length cp] 48))
          have HSE1 := Aside0.mk (cellOld (o := .cells #[.int .u64 xa, .int .u64 xi, .bool xf, .bool xw, .slice B xp.length cp] 48) BS.out)
          cases xf with
          | true =>
            go_wp2_with (go_at_call 79; refine (shardKeys1 (w.heap.size + 1 + 1) (w.heap.size + 1) _ B cp xp _ w _ HPR.out HB1.out (by omega) (by omega) HSE1.out HM1.out (by have := HN.out; have := HS3.out; omega) HKX.out).mono ?_; rintro e w2 ⟨⟨v, rfl⟩, hM2, hg2⟩; have HM2 := Aside0.mk hM2; have HG2 := Aside0.mk hg2; clear hM2 hg2)
            go_roundg (l.length - (jj + 1))
            case measure => omega
            case rel => exact ⟨jj + 1, by omega, by omega, by go_num, ⟨HB1.out.grown HG2.out (by simp; have := BB.out.size; omega) (fun k e => by cases e; omega)⟩, ⟨cell_grown_u HSE1.out HG2.out (fun e => by have := Option.some.inj e; omega)⟩, ⟨by rw [HS.out, HS2.out, ← Nat.add_assoc]; exact HM2.out⟩⟩
          | false =>
            go_wp2
            go_roundg (l.length - (jj + 1))
            case measure => omega
            case rel => exact ⟨jj + 1, by omega, by omega, by go_num, HB1, HSE1, ⟨by rw [HS.out, HS2.out, ← Nat.add_assoc]; exact HM1.out.more (Nat.le_add_right _ _)⟩⟩
        · have hltz : ¬ (jj : Int) < (l.length : Int) := by omega
          obtain rfl : jj = l.length := by omega
          rw [List.take_length] at BM
          clear hlt hjj hgk hll
          have hmb : w.heap.size ≤ w.heap.size + 1 := by omega
          have HC := Aside0.mk (shardKeys1 (w.heap.size + 1 + 1) (w.heap.size + 1) _ A4 c4 more _ w wr HR4.out BB.out hmb (by omega) BS.out BM.out HN.out HK4.out)
          go_wp2_with (first
            | (go_at_call 79; refine HC.out.mono ?_; rintro e w2 ⟨⟨v, rfl⟩, hM2, hg2⟩; have HM2 := Aside0.mk hM2; have HG2 := Aside0.mk hg2; have hse2 := cell_grown_u BS.out hg2 (fun e => by have := Option.some.inj e; omega); clear hM2 hg2)
            | ((with_reducible refine gate_builtin (b := .len) (xs := #[.tmp 41]) rfl ?_); refine wpList_len_key rfl _ 113 rfl Try.underlying113 rfl HM2.out ?_))
          go_ret
          exact ⟨rfl, BB.out.grown HG2.out BB.out.size (fun k e => by cases e; omega)⟩
end Go.Proofs.Ytmcgcdpiceikeaa.PAll
end
section
/- Maps whose keys are transactions. -/
namespace Go.Proofs.Ytmcgcdpiceikeaa.PAll
open Go.RowKit Go.WideMaps Go.Maps Go.Proofs.YtmcgcdpiceikeaaW.PrintWords Go.Proofs.Ytmcgcdpiceikeaa
set_option linter.unusedVariables false
theorem txLaid : laidOutB Try.prog = true := by kernel_rfl
theorem txKeyed : Keyed Try.prog 30 := Keyed.of_law (deep_law_laid txLaid (m := 3) (by decide) (of_decide_eq_true (by kernel_rfl)) (by kernel_rfl) (by kernel_rfl))
theorem txKeyType : Try.prog.keyType 30 = true := by kernel_rfl
theorem txCells : Try.prog.cellsOf 30 = 2 := by kernel_rfl
theorem u64Cells : Try.prog.cellsOf 26 = 1 := by kernel_rfl
theorem tySize : ∃ m, Try.prog.types.size = m + 1 := ⟨Try.prog.types.size - 1, by have h : Try.prog.types.size ≠ 0 := of_decide_eq_true (by kernel_rfl); omega⟩
def txVal (a b : Int) : Value := .agg #[.int .u64 a, .int .u64 b]
theorem tx_key {a b : Int} (wa : (Lit.int .u64 a).wf = true) (wb : (Lit.int .u64 b).wf = true) : keyOf Try.prog 30 (txVal a b) = some (.string (keyBytes [.int .u64 a, .int .u64 b])) := by
  obtain ⟨m, hm⟩ := tySize
  unfold keyOf txVal
  simp only [Try.underlying30]
  rw [if_pos (by simp [txKeyType, Value.formed, Try.underlying30, txCells]), hm]
  unfold Program.keyLits
  simp only [Try.underlying30, Value.cells]
  rw [if_pos (by rw [txCells]; exact ⟨rfl, by kernel_rfl⟩)]
  simp [u64Cells, Program.keyLits, Try.underlying26, wa, wb]
/-- A transaction's key, as two words. -/
def txw (t : S30) : UInt64 × UInt64 := (UInt64.ofNat t.f0.toNat, UInt64.ofNat t.f1.toNat)
def okTx (t : S30) : Prop := (0 ≤ t.f0 ∧ t.f0 < 18446744073709551616) ∧ (0 ≤ t.f1 ∧ t.f1 < 18446744073709551616)
theorem u64n (x : UInt64) : (Lit.int .u64 (x.toNat : Int)).wf = true := by
  have := x.toNat_lt
  simp [Lit.wf, IntKind.min, IntKind.max, IntKind.signed, IntKind.bits]
  omega
def txLit (p : UInt64 × UInt64) : Lit := .string (keyBytes [.int .u64 (p.1.toNat : Int), .int .u64 (p.2.toNat : Int)])
theorem txLit_key (p : UInt64 × UInt64) : keyOf Try.prog 30 (txVal p.1.toNat p.2.toNat) = some (txLit p) := tx_key (u64n _) (u64n _)
theorem txLit_inj (x y : UInt64 × UInt64) (h : txLit x = txLit y) : x = y := by
  have h1 := txLit_key x
  rw [h] at h1
  have h2 := txKeyed.inj h1 (txLit_key y)
  unfold txVal at h2
  simp at h2
  exact Prod.ext (UInt64.toNat_inj.1 (by omega)) (UInt64.toNat_inj.1 (by omega))
theorem txLit_key2 (x : UInt64 × UInt64) : WideAt.IsKeyLit (txLit x) := txKeyed.key (txLit_key x)
theorem txw_nat {t : S30} (h : okTx t) : ((txw t).1.toNat : Int) = t.f0 ∧ ((txw t).2.toNat : Int) = t.f1 := by
  obtain ⟨⟨a, b⟩, c, d⟩ := h
  unfold txw
  simp only [UInt64.toNat_ofNat']
  omega
theorem txKey {t : S30} (h : okTx t) : keyOf Try.prog 30 (.agg #[.int .u64 t.f0, .int .u64 t.f1]) = some (txLit (txw t)) := by
  have := txLit_key (txw t)
  obtain ⟨h1, h2⟩ := txw_nat h
  rw [h1, h2] at this
  exact this
theorem txw_inj {a b : S30} (ha : okTx a) (hb : okTx b) : txw a = txw b ↔ (a.f0 == b.f0 && a.f1 == b.f1) = true := by
  obtain ⟨h1, h2⟩ := txw_nat ha
  obtain ⟨h3, h4⟩ := txw_nat hb
  constructor
  · intro h
    rw [h] at h1 h2
    simp
    omega
  · intro h
    simp at h
    exact Prod.ext (UInt64.toNat_inj.1 (by omega)) (UInt64.toNat_inj.1 (by omega))
end Go.Proofs.Ytmcgcdpiceikeaa.PAll
end
section
-- Printed by this session's pr.sh (the kit's print.py, several laws in one namespace). Not trusted: Lean checks it.
namespace Go.Proofs.Ytmcgcdpiceikeaa.PAll
open Go.RowKit Go.Proofs.YtmcgcdpiceikeaaW.PrintWords Go.Proofs.YtmcgcdpiceikeaaW.PrintLast Go.Proofs.YtmcgcdpiceikeaaW.PrintMore
attribute [local go_sem] max2_int min2_int max_two min_two max_three min_three max_four min_four   -- for this text's walks alone
set_option linter.unusedVariables false
set_option linter.unusedSimpArgs false

theorem eqA30 (d : Nat) (w : World) (x0 y0 : Int) (x1 y1 : Int) :
    (Op.equalIn (d + 2) 30 (.agg #[.int .u64 x0, .int .u64 x1]) (.agg #[.int .u64 y0, .int .u64 y1])).run Try.prog w = .ok (x0 == y0 && (x1 == y1)) w := by
  refine eqA_of Try.underlying30 (by kernel_rfl) ?_
  refine eqf_cons (by rfl) (by go_simp; rfl) (by go_simp; rfl) (by go_simp) ?_
  exact eqf_last (by rfl) (by go_simp; rfl) (by go_simp; rfl) (by go_simp)
end Go.Proofs.Ytmcgcdpiceikeaa.PAll
end
