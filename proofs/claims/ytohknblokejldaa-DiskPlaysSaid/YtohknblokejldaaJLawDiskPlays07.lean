/- Joined texts, in this order: DiskFl, Concat, Ints. Each one's first remark says what it proves; no condition beyond those that its theorems name. -/
import Derived.Test.YtohknblokejldaaJLawDiskPlays06
import Derived.Test.YtohknblokejldaaJLawDiskPlays01
import Derived.Test.YtohknblokejldaaJLawDiskPlays04
import Derived.Test.YtohknblokejldaaProg
section
/- Contract: disk.Flush. -/
namespace Go.Proofs.Ytohknblokejldaa
open Go.RowKit
open Go.Lib (hid)
set_option linter.unusedVariables false

theorem dkCommand_same (s : Dk) : (dkCommand s).2.D = s.D ∧ (dkCommand s).2.C = s.C ∧ (dkCommand s).2.size = s.size := by
  unfold dkCommand
  split
  · split <;> exact ⟨rfl, rfl, rfl⟩
  · exact ⟨rfl, rfl, rfl⟩
theorem Dk.Ok.of_same {s s' : Dk} (h : s.Ok) (hD : s'.D = s.D) (hC : s'.C = s.C) (hs : s'.size = s.size) : s'.Ok :=
  ⟨by rw [hC, hD, hs]; exact h.key, by rw [hD, hs]; exact h.sec, by rw [hD]; exact h.pos, by rw [hD]; exact h.le, by rw [hs]; exact h.sz, by rw [hs]; exact h.sz0⟩
/-- what an entry of the cache says, while the sectors turn -/
theorem entry_facts {W R : Nat → Prop} {w : World} {g b gd cd : Nat} {s : Dk} {D' : List (List UInt8)} {V' : List Value} {M : List (Int × Value × List UInt8)} {vs : List (Int × Value)} (hvs : vs = (M.map fun p => (p.1, p.2.1))) (hok : s.Ok)
    (h : DkIs w g W R { s with D := D' } b (.slice (some ⟨gd, 0, none⟩) s.D.length cd) V' M) (hl : D'.length = s.D.length) {k : Int} {v : Value} (hlk : vs.lookup k = some v) :
    ∃ (kk : Nat) (l d : List UInt8) (u : Value) (a : Option Addr) (c : Nat), k = (kk : Int) ∧ kk < s.D.length ∧ s.C.lookup k = some l ∧ s.D[kk]? = some d ∧ Sec w R v l ∧ V'[kk]? = some u ∧ w.cell? ⟨gd, kk, none⟩ = some u ∧ w.frozen? ⟨gd, kk, none⟩ = false ∧ v = .slice a l.length c ∧ l.length = s.size ∧ d.length = s.size ∧ (∃ d', D'[kk]? = some d' ∧ Sec w R u d') := by
  have h1 : vs.lookup k = (M.lookup k).map (·.1) := by rw [hvs]; exact lookup_map (fun q : Value × List UInt8 => q.1) M k
  rw [hlk] at h1
  cases hM : M.lookup k with
  | none => rw [hM] at h1; simp at h1
  | some q =>
    obtain ⟨v', l⟩ := q
    rw [hM] at h1
    simp at h1
    subst h1
    have hin := lookup_mem hM
    have h2 : s.C.lookup k = some l := by
      have := h.eqC
      simp only at this
      rw [← this]
      have h3 : (M.map fun p => (p.1, p.2.2)).lookup k = (M.lookup k).map (·.2) := lookup_map (fun q : Value × List UInt8 => q.2) M k
      rw [h3, hM]; rfl
    have h4 := hok.key _ (lookup_mem h2)
    obtain ⟨kk, hkk⟩ := Int.eq_ofNat_of_zero_le h4.1
    have hlt : kk < s.D.length := by have := h4.2.1; simp only at hkk; omega
    have hVl : V'.length = s.D.length := by have := h.own.1; simp only at this; omega
    have hu : V'[kk]? = some (V'[kk]'(by omega)) := List.getElem?_eq_getElem (by omega)
    have hown : w.ownsRow 0 27 1 (.slice (some ⟨gd, 0, none⟩) s.D.length cd) s.D.length V' := by have := h.own; simp only [hl] at this; exact this
    have hd' : D'[kk]? = some (D'[kk]'(by omega)) := List.getElem?_eq_getElem (by omega)
    obtain ⟨u, hu1, hu2⟩ := h.sec kk _ hd'
    rw [hu] at hu1
    obtain rfl := Option.some.inj hu1
    have hd : s.D[kk]? = some (s.D[kk]'hlt) := List.getElem?_eq_getElem hlt
    have hms := h.msec _ hin
    obtain ⟨a, c, hv, -⟩ := hms.1
    exact ⟨kk, l, _, _, a, c, hkk, hlt, h2, hd, hms, hu, by rw [hown.cellAt kk (by omega), hu], hown.frozenAt kk, hv, h4.2.2, hok.sec _ (List.mem_of_getElem? hd), _, hd', hu2⟩
/-- the sectors, behind a flush -/
def flushD (s : Dk) : List (List UInt8) := mixF (fun _ b _ => b) s.D s.C []
def dkFlush (s : Dk) : Int × Dk := if s.down then (20, s) else if (dkCommand s).1 ≠ 0 then dkCommand s else (0, { (dkCommand s).2 with D := flushD (dkCommand s).2, C := [] })

set_option maxRecDepth 100000 in
set_option maxHeartbeats 2000000 in
theorem disk_Flush (s : Dk) (hok : s.Ok) (g : Nat) (W R : Nat → Prop) (w : World) (h : DiskIs w g W R s) (e0 : Int) (s' : Dk) (hs : Hid (dkFlush s = (e0, s'))) :
    Calls Try.prog 37 #[.pointer (some ⟨g, 0, none⟩)] w fun e w' => e = .returned (.int .i64 e0) ∧ DiskIs w' g W R s' ∧ Upd W w w' := by
  have HI := hid h
  have hs2 := hs.out
  unfold dkFlush at hs2
  obtain ⟨b0, dv0, V0, M0, hd0⟩ := h
  have hc5 : w.cell? ⟨g, 5, none⟩ = some (.bool s.down) := by rw [hd0.blk.cell]; rfl
  clear hs hd0
  cases hdn : s.down
  case true =>
    rw [hdn] at hs2 hc5
    simp only [if_true, Prod.mk.injEq] at hs2
    obtain ⟨rfl, rfl⟩ := hs2
    clear hdn
    go_enter Try.func37, Try.ntmps37
    go_wp2_with fail
    go_ret
    exact ⟨rfl, HI.out, Upd.refl _ _⟩
  rw [hdn] at hs2 hc5
  simp only [Bool.false_eq_true, if_false] at hs2
  obtain ⟨e1, s1, hcm⟩ : ∃ e1 s1, dkCommand s = (e1, s1) := ⟨_, _, rfl⟩
  rw [hcm] at hs2
  simp only at hs2
  have hsame := dkCommand_same s
  rw [hcm] at hsame
  have hok1 := hok.of_same hsame.1 hsame.2.1 hsame.2.2
  have HCM := hid hcm
  have HOK := hid hok1
  clear hcm hsame hdn hok hok1
  by_cases h1 : e1 = 0
  case neg =>
    rw [if_pos h1] at hs2
    simp only [Prod.mk.injEq] at hs2
    obtain ⟨rfl, rfl⟩ := hs2
    have hb : (e1 != 0) = true := by simpa using h1
    go_enter Try.func37, Try.ntmps37
    go_wp2_with (go_at_call 63; (with_reducible refine (disk_command s g W R _ HI.out e1 s1 HCM).mono ?_); rintro e w1 ⟨rfl, hi1, hu1⟩)
    go_ret
    exact ⟨rfl, hi1, hu1⟩
  subst h1
  rw [if_neg (by simp)] at hs2
  simp only [Prod.mk.injEq] at hs2
  obtain ⟨rfl, rfl⟩ := hs2
  go_enter Try.func37, Try.ntmps37
  go_wp2_with fail
  refine (disk_command s g W R _ HI.out 0 s1 HCM).mono ?_
  rintro e w1 ⟨rfl, ⟨b, dv, V, M, hd⟩, hu1⟩
  obtain ⟨gd, cd, rfl⟩ := Joins.ownsRow_form hd.own HOK.out.pos
  have hc2 : w1.cell? ⟨g, 2, none⟩ = some (.map (some b)) := by rw [hd.blk.cell]; rfl
  have HD := hid hd
  have HU1 := hid hu1
  obtain ⟨vs, hvs⟩ : ∃ vs, vs = (M.map fun p => (p.1, p.2.1)) := ⟨_, rfl⟩
  have HVS := hid hvs
  have hmap := hd.map
  rw [← hvs] at hmap
  have HMAP := hid hmap
  clear hd hu1 hvs hmap
  go_wp2_with (at_range; refine wpList_rangeE _ rfl _ rfl Try.underlying115 rfl HMAP.out ?_; intro w2 hr2 hb2 hs2)
  go_frame
  have HR2 := hid hr2
  have HB2 := hid hb2
  have HS2 := hid hs2
  have HM1 : Hid (mixF (fun _ b _ => b) s1.D s1.C (vs.map (·.1)) = s1.D) := hid (mixF_all _ _ _ _ (fun p hp => by
    rw [← HD.out.eqC] at hp
    obtain ⟨q, hq, rfl⟩ := List.mem_map.1 hp
    rw [HVS.out, List.map_map]
    exact List.mem_map.2 ⟨q, hq, rfl⟩))
  clear hr2 hb2 hs2
  go_loopw [4, 5] (fun v4 v5 wr => ∃ (left : List (Int × Value)) (V' : List Value), Hid (RangeE wr w1.heap.size b vs left) ∧ Hid (DkIs wr g W R { s1 with D := mixF (fun _ b _ => b) s1.D s1.C (left.map (·.1)) } b (.slice (some ⟨gd, 0, none⟩) s1.D.length cd) V' M) ∧ Hid (Upd W w1 wr)) (fun _ _ wr => rangeN wr w1.heap.size b)
  case atStart => exact ⟨vs, V, HR2, hid (by rw [HM1.out]; exact HD.out.below HB2.out), hid (Upd.of_below HB2.out)⟩
  case round =>
    clear HR2 HB2 HS2
    obtain ⟨left, V', HR, HDr, HU⟩ := hrel
    have hlen := HR.out.len
    have HLEN := hid hlen
    have hlenD : (mixF (fun _ b _ => b) s1.D s1.C (left.map (·.1))).length = s1.D.length := mixF_len _ _ _ _
    clear hlen
    have hc2r : wr.cell? ⟨g, 2, none⟩ = some (.map (some b)) := by rw [HDr.out.blk.cell]; rfl
    by_cases hl0 : left = []
    · subst hl0
      have hm := HDr.out.map
      have HM := hid hm
      clear hm hlenD
      go_wp2_with (first | (at_next; refine wpList_nextE _ rfl _ rfl rfl HR.out (fun _ => ?_) (fun k v w' hin => absurd hin (by simp))) | (with_reducible refine wpList_clearE _ rfl (.tmp 35) rfl Try.underlying115 rfl HM.out ?_))
      intro w3 hm3 hu3 hs3
      have hfin := HDr.out.clearC hm3 hu3
      have HPOST : Hid (DiskIs w3 g W R { s1 with D := flushD s1, C := [] } ∧ Upd W w w3) := hid ⟨⟨_, _, _, _, hfin⟩, (HU1.out.trans HU.out (fun _ _ x => x)).trans (hu3.mono (fun k _ q => q ▸ HD.out.wb)) (fun _ _ x => x)⟩
      clear hfin hm3 hu3 hs3
      go_wp2_with fail
      go_ret
      exact ⟨rfl, HPOST.out.1, HPOST.out.2⟩
    · have hc1r : ∀ w', Upd (fun j => j = w1.heap.size) wr w' → w'.cell? ⟨g, 1, none⟩ = some (.slice (some ⟨gd, 0, none⟩) s1.D.length cd) := fun w' hu => by
        have hg := HD.out.blk.lt
        rw [(HDr.out.blk.upd hu (fun q => by omega)).cell]; rfl
      have HC1 := hid hc1r
      clear hc1r
      have hrW : ∀ j, j = w1.heap.size → ¬ W j := fun j hj q => by have := HD.out.wlt j q; omega
      have hrR : ∀ j, j = w1.heap.size → ¬ R j := fun j hj q => by have := HD.out.rlt j q; omega
      have HRW := hid hrW
      have HRR := hid hrR
      clear hrW hrR
      go_wp2_with (at_next; refine wpList_nextE _ rfl _ rfl rfl HR.out (fun h0 => absurd h0 hl0) (fun k v w' hin hlk hr' hu' hs' hen => ?_); (have hd' := HDr.out.upd hu' HRW.out HRR.out); (obtain ⟨kk, l, d, u, va, vc, rfl, hkk, hcl, hdk, hsec, hVk, hck, hfk, rfl, hll, hdl, -⟩ := entry_facts HVS.out HOK.out hd' hlenD hlk); (have hc1' := HC1.out _ hu'); (have e0 : (0 : Int) ≤ (kk : Int) := by omega); (have e1 : (kk : Int) < (s1.D.length : Int) := by omega); (have HD2 := hid hd'); (have HSEC := hid hsec); (have HCL := hid hcl); (have HDK := hid hdk); (have HIN := hid hin); (have HR2 := hid hr'); (have HU2 := hid hu'); (have HL2 := hid hll); clear hin hlk hr' hu' hs' hd' hcl hdk hsec hVk hll hdl)
      have hgd := HD.out.wd gd rfl
      have hgl := HD.out.wlt gd hgd.1
      have hstep := mixF_step (fun _ b _ => b) s1.D s1.C (left.map (·.1)) ((adel left (kk : Int)).map (·.1)) kk l d HDK.out HCL.out (List.mem_map.2 ⟨_, HIN.out, rfl⟩) (keys_adel (kk : Int))
      have hD3 : DkIs w' g W R { s1 with D := mixF (fun _ b _ => b) s1.D s1.C (left.map (·.1)) } b (.slice (some ⟨gd, 0, none⟩) (mixF (fun _ b _ => b) s1.D s1.C (left.map (·.1))).length cd) V' M := by rw [hlenD]; exact HD2.out
      have hD4 := hD3.setD kk HSEC.out (by rw [hlenD]; exact hkk)
      have hD5 : DkIs (w'.setCell ⟨gd, kk, none⟩ (.slice va l.length vc)) g W R { s1 with D := mixF (fun _ b _ => b) s1.D s1.C ((adel left (kk : Int)).map (·.1)) } b (.slice (some ⟨gd, 0, none⟩) s1.D.length cd) (V'.set kk (.slice va l.length vc)) M := by
        rw [hstep.2]
        have e : ((mixF (fun _ b _ => b) s1.D s1.C (left.map (·.1))).set kk l).length = s1.D.length := by rw [List.length_set, hlenD]
        simp only [e] at hD4
        exact hD4
      have hR5 := HR2.out.upd (Upd.setCell w' gd kk (.slice va l.length vc)) (fun q => by omega) (fun q => hgd.2.2 q.symm)
      refine ⟨⟨adel left (kk : Int), V'.set kk (.slice va l.length vc), hid hR5, hid hD5, hid ((HU.out.trans HU2.out (fun j hj q => by omega)).trans (Upd.setCell w' gd kk _) (fun j _ q => q ▸ hgd.1))⟩, ?_⟩
      rw [hR5.len, HLEN.out]
      exact adel_len HIN.out
end Go.Proofs.Ytohknblokejldaa
end
section
/- Contracts: slices.Grow of nothing, slices.Concat of two slices of bytes. -/
namespace Go.Proofs.Ytohknblokejldaa
open Go.RowKit
open Go.Lib (hid)
set_option linter.unusedVariables false

/-- append(nil, make([]byte, n)...) -/
theorem run_appZ (w : World) (n : Nat) (h0 : 0 < n) (hn : n ≤ 1000000) (ty : TypeId) : ∃ c w', (Builtin.append_ #[27, 3] ty #[.slice none 0 0, .int .i64 (n : Int)]).run Try.prog w = .ok (.slice (some ⟨w.heap.size, 0, none⟩) n c) w' ∧
    w'.ownsRow w.heap.size 5 1 (.slice (some ⟨w.heap.size, 0, none⟩) 0 c) 0 [] ∧ Below w.heap.size w w' ∧ n ≤ c ∧ c ≤ 9223372036854775807 := by
  obtain ⟨i, hi, hz, hsz, hby⟩ := T_bytes.info
  have hn' : n ≠ 0 := by omega
  have hw : IntKind.i64.wrap (n : Int) = (n : Int) := by rw [IntKind.wrap_i64]; omega
  have e1 : ¬ ((n : Int) < 0) := by omega
  have e2 : ¬ (281474976710656 < (n : Int) * (i.bytes : Int)) := by rw [hby]; omega
  have h63' : ¬ (9223372036854775807 < (n : Int)) := by omega
  have h48' : ¬ (281474976710656 < Builtin.nextslicecap n 0 * i.bytes) := by rw [nextslicecap_zero h0, hby]; omega
  have hge := grownCap_ge w n 0 5
  have hle := grownCap_le_maxLen w n 0 5 (by unfold maxLen; omega)
  refine ⟨grownCap w n 0 5, w.drew.alloc (.cells (Builtin.zeroCells (Value.int .u8 0).cells n ++ Builtin.zeroCells (Value.int .u8 0).cells (grownCap w n 0 5 - n)) 5), ?_, ?_, ?_, hge, by unfold maxLen at hle; exact hle⟩
  · simp [Builtin.append_, run_underlying Try.underlying27, run_underlying Try.underlying3, sizeOf, typeInfo, zeroValue, hi, hz, hw, e1, e2, asInt, asIntOf, hn', h63', h48', Question.forced, run_firstCells_none, newRow, grownCap, hsz]
  · refine ⟨by simp, .inr ⟨w.heap.size, grownCap w n 0 5, _, rfl, Nat.le_refl _, heap_alloc_new w.drew _, Nat.zero_le _, hle, ?_, by simp⟩⟩
    have : (Value.int .u8 0).cells.size = 1 := rfl
    simp only [Array.size_append, size_zeroCells, this]; omega
  · exact ((Below.refl _ _).drew).alloc (Nat.le_refl _) _
theorem wpList_appZ (w : World) {ops : Array Oper} {rest : List Oper} {o : Oper} {a : Act} {Q : Exit → Act → World → Prop} (hg : o.guard = none) (s x : Operand) (hop : o.op = .call { callee := .builtin .append, args := #[s, x], argTypes := #[27, 3] })
    (n : Nat) (h0 : 0 < n) (hn : n ≤ 1000000) (hs : a.eval s = .slice none 0 0) (hx : a.eval x = .int .i64 (n : Int))
    (hK : ∀ c w', w'.ownsRow w.heap.size 5 1 (.slice (some ⟨w.heap.size, 0, none⟩) 0 c) 0 [] → Below w.heap.size w w' → n ≤ c → c ≤ 9223372036854775807 → wpList Try.prog ops Q rest (a.put o.dst (.slice (some ⟨w.heap.size, 0, none⟩) n c)) w') : wpList Try.prog ops Q (o :: rest) a w := by
  refine wpList_plain hg fun K' hK' => ?_
  obtain ⟨c, w', hrun, h1, h2, h3, h4⟩ := run_appZ w n h0 hn o.type
  unfold Oper.wp execOp
  simp only [hop, resolve, invoke, builtin, Sem.run_bind, Sem.run_pure, Result.andThen_ok, List.map_toArray, List.map_cons, List.map_nil, hs, hx, hrun]
  exact hK' _ _ (hK c w' h1 h2 h3 h4)

theorem sl_Grow_nil (n : Nat) (h0 : 0 < n) (hn : n ≤ 1000000) (w : World) : Calls Try.prog 105 #[.slice none 0 0, .int .i64 (n : Int)] w fun e w' => ∃ v, e = .returned v ∧ w'.ownsRow w.heap.size 5 1 v 0 [] ∧ Below w.heap.size w w' := by
  have e1 : (0 : Int) < (n : Int) := by omega
  have e2 : ¬ (n : Int) < 0 := by omega
  go_enter Try.func105, Try.ntmps105
  go_wp2_with (at_builtin; refine wpList_appZ _ rfl _ _ rfl n h0 hn rfl rfl ?_; intro c w' hown hb hc1 hc2)
  go_ret
  exact ⟨_, rfl, hown, hb⟩

set_option maxRecDepth 100000 in
set_option maxHeartbeats 1000000 in
theorem sl_Concat2 (l1 l2 : List UInt8) (v1 v2 : Value) (gq : Nat) (w : World) (hq : Blk w gq #[v1, v2]) (h1 : SlB w v1 l1) (h2 : SlB w v2 l2) (h0 : 0 < l1.length + l2.length) (hn : l1.length + l2.length ≤ 1000000) :
    Calls Try.prog 68 #[.slice (some ⟨gq, 0, none⟩) 2 2] w fun e w' => ∃ v, e = .returned v ∧ w'.ownsRow w.heap.size 5 1 v (l1 ++ l2).length (bv (l1 ++ l2)) ∧ Below w.heap.size w w' := by
  have HQ := hid hq
  have H1 := hid h1
  have H2 := hid h2
  obtain ⟨a1, c1, rfl, -⟩ := h1
  obtain ⟨a2, c2, rfl, -⟩ := h2
  have q0 : w.cell? ⟨gq, 0, none⟩ = some (.slice a1 l1.length c1) := by rw [hq.cell]; rfl
  have q1 : w.cell? ⟨gq, 1, none⟩ = some (.slice a2 l2.length c2) := by rw [hq.cell]; rfl
  obtain ⟨n, hnn⟩ : ∃ n, n = l1.length + l2.length := ⟨_, rfl⟩
  have HN := hid hnn
  have f1 : (l1.length : Int) ≤ 1000000 := by omega
  have f2 : (l2.length : Int) ≤ 1000000 := by omega
  have f3 : (l1.length : Int) + (l2.length : Int) = (n : Int) := by omega
  have hn' : n ≤ 1000000 := by omega
  have h0' : 0 < n := by omega
  have F3 := hid f3
  clear hq hnn f3 hn h0
  go_enter Try.func68, Try.ntmps68
  go_wp2_with fail
  go_loop [3, 11] (fun v3 v11 => (v11 = .int .i64 0 ∧ v3 = .int .i64 0) ∨ (v11 = .int .i64 1 ∧ v3 = .int .i64 (l1.length : Int)) ∨ (v11 = .int .i64 2 ∧ v3 = .int .i64 (n : Int))) (fun _ v11 => (2 - intOf v11).toNat)
  case atStart => exact .inl ⟨rfl, rfl⟩
  case round =>
    rcases hrel with ⟨rfl, rfl⟩ | ⟨rfl, rfl⟩ | ⟨rfl, rfl⟩
    · have g1 : ¬ (l1.length : Int) < 0 := by omega
      go_wp2_with fail
      go_round
      case rel => exact .inr (.inl ⟨rfl, by simp⟩)
      case measure => simp [intOf]
    · have g1 : ¬ (l1.length : Int) + (l2.length : Int) < 0 := by omega
      go_wp2_with fail
      go_round
      case rel => exact .inr (.inr ⟨rfl, by rw [F3.out]⟩)
      case measure => simp [intOf]
    · go_wp2_with (go_at_call 105; (with_reducible refine (sl_Grow_nil n h0' hn' _).mono ?_); rintro e w1 ⟨v1, rfl, hown1, hb1⟩)
      have HOWN1 := hid hown1
      have HB1 := hid hb1
      clear hown1 hb1
      have HQ1 := hid (HQ.out.below HB1.out)
      go_loopw [6, 27] (fun v6 v27 wr => (v27 = .int .i64 0 ∧ Hid (wr.ownsRow w.heap.size 5 1 v6 0 []) ∧ Hid (Below w.heap.size w wr)) ∨ (v27 = .int .i64 1 ∧ Hid (wr.ownsRow w.heap.size 5 1 v6 l1.length (bv l1)) ∧ Hid (Below w.heap.size w wr)) ∨
        (v27 = .int .i64 2 ∧ Hid (wr.ownsRow w.heap.size 5 1 v6 (l1 ++ l2).length (bv (l1 ++ l2))) ∧ Hid (Below w.heap.size w wr))) (fun _ v27 _ => (2 - intOf v27).toNat)
      case atStart => exact .inl ⟨rfl, HOWN1, HB1⟩
      case round =>
        have hb : Hid (Below w.heap.size w wr) := by rcases hrel with q | q | q <;> exact q.2.2
        have r0 : wr.cell? ⟨gq, 0, none⟩ = some (.slice a1 l1.length c1) := by rw [(HQ.out.below hb.out).cell]; rfl
        have r1 : wr.cell? ⟨gq, 1, none⟩ = some (.slice a2 l2.length c2) := by rw [(HQ.out.below hb.out).cell]; rfl
        have hsz := hb.out.size
        have hlen : l1.length + l2.length ≤ 1000000 := by have := HN.out; omega
        rcases hrel with ⟨rfl, HO, -⟩ | ⟨rfl, HO, -⟩ | ⟨rfl, HO, -⟩
        · skip
          have HR : Hid (Rd wr a1 (bv l1) ∧ (a1 = none → c1 = 0)) := hid (by
            obtain ⟨aa, cc, ee, -, j1, -, -, j2⟩ := H1.out.below hb.out
            simp only [Value.slice.injEq] at ee
            obtain ⟨rfl, -, rfl⟩ := ee
            exact ⟨j1, j2⟩)
          go_wp2_with (at_builtin; refine wpList_appendNw T_bytes _ rfl _ _ rfl w.heap.size _ _ _ rfl HO.out a1 l1.length c1 (bv l1) rfl ?c1 (fun _ => HR.out.2) HR.out.1 (bv_oneCell l1) ?c2 ?c3 ?_)
          case c1 => simp [bv_length]
          case c2 => omega
          all_goals try exact hsz
          intro v' w2 hown2 hg2 hnil2 hwh2
          have HO2 : Hid (w2.ownsRow w.heap.size 5 1 v' l1.length (bv l1)) := hid (by simpa using hown2)
          have HB2 : Hid (Below w.heap.size w w2) := hid (hb.out.grown hg2 hsz (fun j hj => (HO.out.lt j hj).1))
          clear hown2 hg2 hnil2 hwh2
          go_wp2_with fail
          go_roundw
          case rel => exact .inr (.inl ⟨rfl, HO2, HB2⟩)
          case measure => simp [intOf]
        · skip
          have HR : Hid (Rd wr a2 (bv l2) ∧ (a2 = none → c2 = 0)) := hid (by
            obtain ⟨aa, cc, ee, -, j1, -, -, j2⟩ := H2.out.below hb.out
            simp only [Value.slice.injEq] at ee
            obtain ⟨rfl, -, rfl⟩ := ee
            exact ⟨j1, j2⟩)
          go_wp2_with (at_builtin; refine wpList_appendNw T_bytes _ rfl _ _ rfl w.heap.size _ _ _ rfl HO.out a2 l2.length c2 (bv l2) rfl ?c1 (fun _ => HR.out.2) HR.out.1 (bv_oneCell l2) ?c2 ?c3 ?_)
          case c1 => simp [bv_length]
          case c2 => omega
          all_goals try exact hsz
          intro v' w2 hown2 hg2 hnil2 hwh2
          have HO2 : Hid (w2.ownsRow w.heap.size 5 1 v' (l1 ++ l2).length (bv (l1 ++ l2))) := hid (by rw [List.length_append, bv_append]; exact hown2)
          have HB2 : Hid (Below w.heap.size w w2) := hid (hb.out.grown hg2 hsz (fun j hj => (HO.out.lt j hj).1))
          clear hown2 hg2 hnil2 hwh2
          go_wp2_with fail
          go_roundw
          case rel => exact .inr (.inr ⟨rfl, HO2, HB2⟩)
          case measure => simp [intOf]
        · skip
          go_wp2_with fail
          go_ret
          exact ⟨_, rfl, HO.out, hb.out⟩
end Go.Proofs.Ytohknblokejldaa
end
section
/- Contracts: slices of numbers: Index, Contains. -/
namespace Go.Proofs.Ytohknblokejldaa
open Go.RowKit
open Go.Lib (hid)
set_option linter.unusedVariables false

/-- the slice reads as the list of numbers -/
def SlI (w : World) (v : Value) (l : List Int) : Prop := ∃ a c, v = .slice a l.length c ∧ Rd w a (l.map (.int .i64)) ∧ l.length ≤ c ∧ c ≤ 9223372036854775807 ∧ (a = none → c = 0)
theorem SlI.nil (w : World) : SlI w (.slice none 0 0) [] := ⟨none, 0, rfl, Rd.nil _ _, by simp, by omega, fun _ => rfl⟩
theorem SlI.below {w w' : World} {v : Value} {l : List Int} (h : SlI w v l) (hb : Below w.heap.size w w') : SlI w' v l := by
  obtain ⟨a, c, rfl, h2, h3⟩ := h
  exact ⟨a, c, rfl, h2.below' hb, h3⟩
theorem SlI.upd {S : Nat → Prop} {w w' : World} {v : Value} {l : List Int} (h : SlI w v l) (hu : Upd S w w') (hn : ∀ k, v.ownBlock = some k → ¬ S k) : SlI w' v l := by
  obtain ⟨a, c, rfl, h2, h3⟩ := h
  exact ⟨a, c, rfl, hu.rd h2 (fun b off e => hn _ (by rw [e]; rfl)), h3⟩
theorem SlI.of_own {w : World} {base : Nat} {e : TypeId} {v : Value} {l : List Int} (h : w.ownsRow base e 1 v l.length (l.map (.int .i64))) : SlI w v l := by
  obtain ⟨a, cap, rfl, h1, h2, hr, h3⟩ := ownsRow.rd h
  exact ⟨a, cap, rfl, hr, h1, by unfold maxLen at h2; omega, h3⟩
/-- an incoming slice of numbers -/
theorem sli_of_row {w : World} {a : Option Addr} {len cap : Nat} {zs : List Int}
    (h : (a = none ∧ len = 0 ∧ cap = 0 ∧ zs = []) ∨
      ∃ x, a = some x ∧ len ≤ cap ∧ cap ≤ maxLen ∧ zs.length = cap ∧ (∀ i, i < zs.length → w.cell? (x.add i) = some (.int .i64 (zs.getD i 0))) ∧ ∀ n ∈ zs, (Lit.int .i64 n).wf = true) :
    ∃ l : List Int, len = l.length ∧ SlI w (.slice a len cap) l ∧ ∀ n ∈ l, (Lit.int .i64 n).wf = true := by
  obtain ⟨ys, rfl, h1, h2, h3, h4, h5, h6⟩ := Rd.of_row h
  exact ⟨ys, rfl, ⟨a, cap, rfl, h2, h4, h5, h6⟩, h3⟩

def idxF : List Int → Int → Nat → Int
  | [], _, _ => -1
  | y :: l, x, k => if x = y then (k : Int) else idxF l x (k + 1)
theorem idxF_mem : ∀ (l : List Int) (x : Int) (k : Nat), (0 ≤ idxF l x k) ↔ x ∈ l
  | [], x, k => by simp [idxF]
  | y :: l, x, k => by
    rw [idxF]
    by_cases h : x = y
    · rw [if_pos h]; simp [h]
    · rw [if_neg h, idxF_mem l x (k + 1)]; simp [h]
theorem sl_Index (l : List Int) (v : Value) (x : Int) (w : World) (hs : SlI w v l) (r : Int) (hr : Hid (idxF l x 0 = r)) :
    Calls Try.prog 104 #[v, .int .i64 x] w fun e w' => e = .returned (.int .i64 r) ∧ w = w' := by
  obtain ⟨a, c, rfl, hrd, h3, h4, h5⟩ := hs
  have h64 : l.length ≤ 9223372036854775807 := by omega
  clear h3 h4 h5
  go_enter Try.func104, Try.ntmps104
  go_wp2
  go_loop [8] (fun v8 => ∃ (k : Nat), v8 = .int .i64 k ∧ k ≤ l.length ∧ Hid (idxF (l.drop k) x k = r)) (fun v8 => l.length - (intOf v8).toNat)
  case atStart => exact ⟨0, rfl, by omega, hr⟩
  case round =>
    obtain ⟨k, rfl, hk, hsum⟩ := hrel
    by_cases hlt : k < l.length
    · obtain ⟨b, off, y, rfl, hc, -, hd, -, -⟩ := hrd.int k hlt
      have h1 := hsum.out
      rw [hd, idxF] at h1
      by_cases hx : x = y
      · rw [if_pos hx] at h1
        subst hx
        subst h1
        clear hd
        go_wp2
        go_ret
        exact ⟨rfl, rfl⟩
      · rw [if_neg hx] at h1
        have H1 := hid h1
        have hxb : (x == y) = false := by simpa using hx
        clear hd h1
        go_wp2
        go_round
        case rel => exact ⟨k + 1, by go_num, by omega, H1⟩
        case measure => simp [intOf]; omega
    · have h1 := hsum.out
      rw [List.drop_of_length_le (by omega), idxF] at h1
      subst h1
      go_wp2
      go_ret
      exact ⟨rfl, rfl⟩
theorem sl_Contains (l : List Int) (v : Value) (x : Int) (w : World) (hs : SlI w v l) (b : Bool) (hb : Hid (decide (x ∈ l) = b)) :
    Calls Try.prog 67 #[v, .int .i64 x] w fun e w' => e = .returned (.bool b) ∧ w = w' := by
  obtain ⟨r, hr⟩ : ∃ r, idxF l x 0 = r := ⟨_, rfl⟩
  have hm := idxF_mem l x 0
  rw [hr] at hm
  have HR := hid hr
  have hb2 : decide (0 ≤ r) = b := by rw [← hb.out]; simp only [hm]
  have HB := hid hb2
  have HS := hid hs
  clear hr hm hs hb2
  go_enter Try.func67, Try.ntmps67
  go_wp2_with (go_at_call 104; (with_reducible refine (sl_Index l v x _ HS.out r HR).mono ?_); rintro e w' ⟨rfl, rfl⟩)
  go_ret
  exact ⟨by rw [← HB.out]; simp, rfl⟩
end Go.Proofs.Ytohknblokejldaa
end
