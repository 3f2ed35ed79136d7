/- Joined texts, in this order: StallSl, Gold. Each one's first remark says what it proves; no condition beyond those that its theorems name. -/
import Derived.Test.YtajfjgekcjkedaaJLawStallRestores06
import Derived.Laws.CopyOwn
import Derived.Test.YtajfjgekcjkedaaProg
import Derived.Test.YtajfjgekcjkedaaJLawStallRestores01
section
/- Contracts: slices.Clone, Insert, Delete at goods. -/
namespace Go.Proofs.Ytajfjgekcjkedaa
open Go.RowKit
open Go.Lib (hid)
set_option linter.unusedVariables false

theorem T_goods : SlT Try.prog 35 51 (.agg #[.int .i64 0, .int .i64 0]) 2 16 := SlT.mk' Try.underlying35 (by kernel_rfl) rfl (by decide) (by decide)
theorem size_goods : (Try.prog.info? 51).map (·.size) = some 2 := by kernel_rfl
def OwnG (w : World) (v : Value) (gs : List (Int × Int)) : Prop := w.ownsRow 0 51 2 v gs.length (pv gs)
/-- where a slice goes -/
def GoesTo (w : World) (v v' : Value) : Prop := ∀ k, v'.ownBlock = some k → v.ownBlock = some k ∨ w.heap.size ≤ k
set_option maxRecDepth 100000 in
theorem sl_CloneG (L : List (Int × Int)) (a : Option Addr) (c : Nat) (w : World) (hrd : Rd w a (pv L)) (hb : L.length ≤ 1000000) (hc0 : L.length = 0 → a = none → c = 0) : Calls Try.prog 42 #[.slice a L.length c] w fun e w' =>
    ∃ v, e = .returned v ∧ w'.ownsRow w.heap.size 51 2 v L.length (pv L) ∧ Below w.heap.size w w' := by
  have hn := fun (w : World) (a : Option Addr) (n c : Nat) => Lib.run_eql_slice_nil (P := Try.prog) w 35 51 a n c 0 0 Try.underlying35
  cases a with
  | none =>
    have := Rd.nil_of_none hrd
    have hL : L = [] := by
      cases L with
      | nil => rfl
      | cons p L => simp [pv] at this
    subst hL
    go_enter Try.func42, Try.ntmps42
    go_wp2
    go_ret
    exact ⟨_, rfl, World.ownsRow_nil _ _ _ _, Below.refl _ _⟩
  | some ad =>
    have hr2 : Rd (w.alloc (.cells #[] 51)) (some ad) (pv L) := hrd.below' ((Below.refl _ _).alloc (Nat.le_refl _) _)
    have hown : (w.alloc (.cells #[] 51)).ownsRow w.heap.size 51 2 (.slice (some ⟨w.heap.size, 0, none⟩) 0 0) 0 [] := World.ownsRow_made w #[] 0 (Nat.le_refl _) (by omega) (by simp)
    have HL := hid (pv_length L)
    have HO := hid (pv_oneCell L)
    go_enter Try.func42, Try.ntmps42
    go_wp2_with (at_builtin; refine wpList_appendN T_goods _ rfl _ _ rfl w.heap.size _ _ _ rfl hown _ _ _ (pv L) rfl HL.out (fun _ h => nomatch h) hr2 HO.out ?c2 ?c3 ?_)
    case c2 => omega
    case c3 => simp
    intro v' w' hown' hg hnil
    have hb' : Below w.heap.size w w' := ((Below.refl _ _).alloc (Nat.le_refl _) _).grown hg (by simp) (fun k hk => by simp [Value.ownBlock] at hk; omega)
    have hown2 : w'.ownsRow w.heap.size 51 2 v' L.length (pv L) := by simpa using hown'
    clear hg hnil hown hown'
    go_wp2
    go_ret
    exact ⟨_, rfl, hown2, hb'⟩
/-- behind slices.Insert, and Delete -/
def SlPost (w : World) (v : Value) (gs' : List (Int × Int)) (e : Ending) (w' : World) : Prop := ∃ v', e = .returned v' ∧ OwnG w' v' gs' ∧ Upd (fun k => v.ownBlock = some k) w w' ∧ GoesTo w v v'
set_option maxRecDepth 100000 in
set_option maxHeartbeats 2000000 in
theorem sl_InsEnd (gs : List (Int × Int)) (v : Value) (p : Int × Int) (bp : Nat) (w : World) (h : OwnG w v gs) (hl : gs.length ≤ 1000) (hp : Blk w bp #[.int .i64 p.1, .int .i64 p.2]) :
    Calls Try.prog 33 #[v, .int .i64 (gs.length : Int), .slice (some ⟨bp, 0, none⟩) 1 1] w (SlPost w v (gs ++ [p])) := by
  have H := hid h
  obtain ⟨a, c, rfl, hlc, hcm, -⟩ := ownsRow.rd h
  have hrd : Rd w (some ⟨bp, 0, none⟩) (pv [p]) := fun i hi => ⟨bp, 0, rfl, by
    have hi2 : i < 2 := by simpa [pv] using hi
    rw [Nat.zero_add, hp.cell]
    match i, hi2 with
    | 0, _ => rfl
    | 1, _ => rfl⟩
  have HR := hid hrd
  have HO := hid (pv_oneCell [p])
  unfold maxLen at hcm
  have hcl : c = gs.length ∨ gs.length < c := by omega
  have hz : ¬ ((1 : Int) == 0) = true := by decide
  clear h hp hrd
  rcases hcl with rfl | hcl
  all_goals
    go_enter Try.func33, Try.ntmps33
    go_wp2_with (at_builtin; refine wpList_appendNw T_goods _ rfl _ _ rfl 0 _ _ _ rfl H.out _ _ _ (pv [p]) rfl (by rfl) (fun h => absurd h (by omega)) HR.out HO.out ?c2 (Nat.zero_le _) ?_)
    case c2 => omega
    intro v' w' hown' hg hnil hwh
    have hown2 : OwnG w' v' (gs ++ [p]) := by
      unfold OwnG
      rw [pv_append, List.length_append]
      exact hown'
    have HQ : Hid (SlPost w _ (gs ++ [p]) (.returned v') w') := hid ⟨v', rfl, hown2, Upd.of_grown hg, hwh⟩
    clear hg hnil hown' hwh hown2
    go_wp2
    go_ret
    exact HQ.out
theorem OwnG.form {w : World} {v : Value} {gs : List (Int × Int)} (h : OwnG w v gs) (hp : 0 < gs.length) : ∃ g c cur, v = .slice (some ⟨g, 0, none⟩) gs.length c ∧ w.heap[g]? = some (.cells (cur : List Value).toArray 51 (0, 0)) ∧ gs.length ≤ c ∧ c ≤ 9223372036854775807 ∧ cur.length = c * 2 ∧ cur.take (gs.length * 2) = pv gs := by
  rcases h.2 with ⟨-, q⟩ | ⟨g, c, cur, rfl, -, hg, h1, h2, h3, h4⟩
  · omega
  · exact ⟨g, c, cur.toList, rfl, by simpa using hg, h1, by unfold maxLen at h2; omega, by simpa using h3, h4⟩
theorem OwnG.mk {w : World} {g n c : Nat} {cur : List Value} {gs : List (Int × Int)} (hg : w.heap[g]? = some (.cells cur.toArray 51 (0, 0))) (hn : gs.length = n) (h1 : n ≤ c) (h2 : c ≤ 9223372036854775807) (h3 : cur.length = c * 2) (h4 : cur.take (n * 2) = pv gs) : OwnG w (.slice (some ⟨g, 0, none⟩) n c) gs := by
  subst hn
  exact ⟨pv_length gs, .inr ⟨g, c, cur.toArray, rfl, Nat.zero_le _, hg, h1, by unfold maxLen; omega, by simpa using h3, by simpa using h4⟩⟩
theorem pv_cons (p : Int × Int) (gs : List (Int × Int)) : pv (p :: gs) = .int .i64 p.1 :: .int .i64 p.2 :: pv gs := rfl
theorem pv_take : ∀ (gs : List (Int × Int)) (i : Nat), pv (gs.take i) = (pv gs).take (i * 2)
  | [], i => by simp [pv]
  | p :: gs, 0 => by simp [pv]
  | p :: gs, i + 1 => by rw [List.take_succ_cons, pv_cons, pv_cons, pv_take gs i, show (i + 1) * 2 = i * 2 + 1 + 1 by omega, List.take_succ_cons, List.take_succ_cons]
theorem pv_drop : ∀ (gs : List (Int × Int)) (i : Nat), pv (gs.drop i) = (pv gs).drop (i * 2)
  | [], i => by simp [pv]
  | p :: gs, 0 => by simp
  | p :: gs, i + 1 => by rw [List.drop_succ_cons, pv_cons, pv_drop gs i, show (i + 1) * 2 = i * 2 + 1 + 1 by omega, List.drop_succ_cons, List.drop_succ_cons]
theorem overlaps_apart (w : World) (g bp : Nat) (cur cp : List Value) (hg : w.heap[g]? = some (.cells cur.toArray 51 (0, 0))) (hp : Blk w bp cp.toArray) (hne : bp ≠ g) (h0 : 0 < cur.length) (o1 o2 la ca lb cb : Nat) :
    (callFunc 48 #[.slice (some ⟨bp, o1, none⟩) la ca, .slice (some ⟨g, o2, none⟩) lb cb]).run Try.prog w = .ok (.value (.bool false)) w := by
  obtain ⟨e, hp⟩ := hp
  have hsa : w.shape? bp = some (e, cp.length) := by simp [World.shape?, hp]
  have hsb : w.shape? g = some (51, cur.length) := by simp [World.shape?, hg]
  rw [run_callFunc_extern Try.func48 (by kernel_rfl) (by kernel_rfl) (by kernel_rfl) (e := Extern.SlicesOverlaps.overlaps #[35, 35] #[4]) (by kernel_rfl),
    Lib.run_overlaps_apart w 35 4 51 Try.underlying35 2 (fun _ => by kernel_rfl) ⟨bp, o1, none⟩ ⟨g, o2, none⟩ la ca lb cb hne e 51 _ _ hsa hsb (by omega) (by simp [World.frozen?, hp]) (by simp [World.frozen?, hp])]
  rfl
set_option maxRecDepth 100000 in
set_option maxHeartbeats 4000000 in
theorem sl_InsGrow (gs : List (Int × Int)) (g : Nat) (p : Int × Int) (bp : Nat) (w : World) (h : OwnG w (.slice (some ⟨g, 0, none⟩) gs.length gs.length) gs) (hl : gs.length ≤ 1000) (hp : Blk w bp #[.int .i64 p.1, .int .i64 p.2]) (i : Nat) (hi : i < gs.length) :
    Calls Try.prog 33 #[.slice (some ⟨g, 0, none⟩) gs.length gs.length, .int .i64 (i : Int), .slice (some ⟨bp, 0, none⟩) 1 1] w (SlPost w (.slice (some ⟨g, 0, none⟩) gs.length gs.length) (gs.take i ++ p :: gs.drop i)) := by
  obtain ⟨g', c', cur, e, hg, -, -, hcl, htk⟩ := h.form (by omega)
  simp only [Value.slice.injEq, Option.some.injEq, Addr.mk.injEq, and_true, true_and] at e
  obtain ⟨rfl, rfl⟩ := e
  have HP := hid hp
  obtain ⟨i0, hi0, hz0, hzs, hzb⟩ := T_goods.info
  have hz1 : ¬ ((1 : Int) == 0) = true := by decide
  have hz2 : ((i : Int) == (gs.length : Int)) = false := by simp; omega
  have hcells : ∀ (k : Nat) (v : Value), (pv gs)[k]? = some v → w.cell? ⟨g, k, none⟩ = some v := fun k v hk => by
    have hk2 : k < gs.length * 2 := by rw [← pv_length]; exact (List.getElem?_eq_some_iff.1 hk).1
    rw [← htk, List.getElem?_take, if_pos hk2] at hk
    simp [World.cell?, hg, hk]
  have hold : (Builtin.firstCells i0.size i (.slice (some ⟨g, 0, none⟩) i gs.length)).run Try.prog w.drew = .ok (pv (gs.take i)).toArray w.drew := by
    rw [hzs]
    exact run_firstCells_some w.drew 2 i ⟨g, 0, none⟩ i gs.length (pv (gs.take i)) (by rw [pv_length, List.length_take]; omega) (fun j v hj => by
      rw [Addr.add_lit, Nat.zero_add]
      rw [pv_take, List.getElem?_take] at hj
      split at hj
      · exact hcells j v hj
      · cases hj)
  have hkk : (gs.length : Int) + 1 - (i : Int) = ((gs.length + 1 - i : Nat) : Int) := by omega
  have hik : i + (gs.length + 1 - i) = gs.length + 1 := by omega
  have hrz : ∀ ty, (Builtin.append_ #[35, 3] ty #[.slice (some ⟨g, 0, none⟩) i gs.length, .int .i64 ((gs.length : Int) + 1 - (i : Int))]).run Try.prog w =
      .ok (.slice (some ⟨w.heap.size, 0, none⟩) (gs.length + 1) (grownCap w (gs.length + 1) gs.length 51)) (w.drew.alloc (.cells ((pv (gs.take i)).toArray ++ Builtin.zeroCells (Value.agg #[.int .i64 0, .int .i64 0]).cells (gs.length + 1 - i) ++ Builtin.zeroCells (Value.agg #[.int .i64 0, .int .i64 0]).cells (grownCap w (gs.length + 1) gs.length 51 - (gs.length + 1))) 51)) := fun ty => by
    have h := Lib.run_append_grow_zeros w 35 3 ty 51 i0 _ .i64 .i64 Try.underlying35 Try.underlying3 hi0 hz0 (some ⟨g, 0, none⟩) i gs.length (pv (gs.take i)) hold (gs.length + 1 - i) (by omega) (by omega) (by omega) (by omega) (by rw [hzb]; omega) (by rw [hzb, hik]; exact growslice_fits (by omega) (by omega))
    rw [hik] at h
    rw [hkk]
    exact h
  have hGn : gs.length + 1 ≤ grownCap w (gs.length + 1) gs.length 51 := grownCap_ge w _ _ _
  have hG63 : grownCap w (gs.length + 1) gs.length 51 ≤ 9223372036854775807 := by
    have := grownCap_le_maxLen w (gs.length + 1) gs.length 51 (by unfold maxLen; omega)
    unfold maxLen at this
    exact this
  obtain ⟨G, hG⟩ : ∃ G, G = grownCap w (gs.length + 1) gs.length 51 := ⟨_, rfl⟩
  rw [← hG] at hrz hGn hG63
  obtain ⟨ROW, hROW⟩ : ∃ ROW : List Value, ROW = ((pv (gs.take i)).toArray ++ Builtin.zeroCells (Value.agg #[.int .i64 0, .int .i64 0]).cells (gs.length + 1 - i) ++ Builtin.zeroCells (Value.agg #[.int .i64 0, .int .i64 0]).cells (G - (gs.length + 1))).toList := ⟨_, rfl⟩
  have hRA : ((pv (gs.take i)).toArray ++ Builtin.zeroCells (Value.agg #[.int .i64 0, .int .i64 0]).cells (gs.length + 1 - i) ++ Builtin.zeroCells (Value.agg #[.int .i64 0, .int .i64 0]).cells (G - (gs.length + 1))) = ROW.toArray := by rw [hROW]
  rw [hRA] at hrz
  have hzc : (Value.agg #[.int .i64 0, .int .i64 0]).cells.size = 2 := rfl
  have hRl : ROW.length = G * 2 := by
    rw [hROW]
    simp only [Array.length_toList, Array.size_append, List.size_toArray, size_zeroCells, hzc, pv_length, List.length_take]
    omega
  have hRt : ROW.take (i * 2) = pv (gs.take i) := by
    rw [hROW]
    simp only [Array.toList_append, List.append_assoc]
    exact take_left' _ _ _ (by rw [pv_length, List.length_take]; omega)
  obtain ⟨W1, hW1⟩ : ∃ W1, W1 = w.drew.alloc (.cells ROW.toArray 51) := ⟨_, rfl⟩
  rw [← hW1] at hrz
  obtain ⟨n2, hn2⟩ : ∃ n2, n2 = w.heap.size := ⟨_, rfl⟩
  rw [← hn2] at hrz
  have HB1 : Hid (Below w.heap.size w W1) := hid (by rw [hW1]; exact ((Below.refl _ _).drew).alloc (Nat.le_refl _) _)
  have HR1 : Hid (W1.heap[n2]? = some (.cells ROW.toArray 51 (0, 0))) := hid (by rw [hW1, hn2]; exact heap_alloc_new w.drew _)
  have HP1 := hid (hp.below HB1.out)
  have HC1 : Hid (∀ (k : Nat) (v : Value), (pv gs)[k]? = some v → W1.cell? ⟨g, k, none⟩ = some v) := hid (fun k v hk => by
    rw [← hcells k v hk]
    exact World.cell?_of_block (HB1.out.block g (Array.getElem?_eq_some_iff.1 hg).1))
  have HN2 := hid hn2
  have HX : Hid (ROW.length = G * 2 ∧ ROW.take (i * 2) = pv (gs.take i)) := hid ⟨hRl, hRt⟩
  have HBP : Hid (bp < w.heap.size ∧ g < w.heap.size) := hid ⟨hp.lt, (Array.getElem?_eq_some_iff.1 hg).1⟩
  have hii : ¬ (G = i) := by omega
  have hii2 : ¬ (G = i + 1) := by omega
  have hii3 : (i : Int) < (gs.length : Int) := by omega
  clear hG hp hROW hRA hzc hRl hRt hW1 hn2 hold hkk hik hcells htk hcl hg h hi0 hz0 hzs hzb
  go_enter Try.func33, Try.ntmps33
  go_upto_region 10 with (at_builtin; refine Lib.wpList_append_run _ rfl _ _ _ _ rfl _ _ rfl rfl _ _ (hrz _) ?_)
  have hpl : (pv [p]).length = 2 := rfl
  have hsrcp : ∀ W, Blk W bp #[.int .i64 p.1, .int .i64 p.2] → ∀ (j : Nat) (v : Value), (pv [p])[j]? = some v → W.cell? ((⟨bp, 0, none⟩ : Addr).add j) = some v := fun W hW j v hj => by
    rw [Addr.add_lit, Nat.zero_add, hW.cell, ← hj]
    have : j < 2 := by have := (List.getElem?_eq_some_iff.1 hj).1; rw [hpl] at this; exact this
    match j, this with
    | 0, _ => rfl
    | 1, _ => rfl
  have hcn : (pv [p]).length = Nat.min 1 (gs.length + 1 - i) * 2 := by rw [hpl, show Nat.min 1 (gs.length + 1 - i) = 1 from Nat.min_eq_left (by omega)]
  go_upto_region 11 with (with_reducible refine wpList_copyU rfl (.tmp 43) (.tmp 44) 35 35 rfl 51 Try.underlying35 2 size_goods n2 (i * 2) (gs.length + 1 - i) (G - i) ⟨bp, 0, none⟩ 1 1 rfl rfl ROW 51 HR1.out (pv [p]) hcn (hsrcp _ HP1.out) (by rw [hpl]; have := HX.out.1; omega) (pv_oneCell _) ?_; intro w2 hr2 hu2 hz2)
  have HR2 : Hid (w2.drew.heap[n2]? = some (.cells (splice ROW (i * 2) (pv [p])).toArray 51 (0, 0))) := hr2
  have HU2 := hid (hu2.drew)
  have HC2 : Hid (∀ (j : Nat) (v : Value), (pv (gs.drop i))[j]? = some v → w2.drew.cell? ((⟨g, i * 2, none⟩ : Addr).add j) = some v) := hid (fun j v hj => by
    rw [pv_drop, List.getElem?_drop] at hj
    rw [Addr.add_lit]
    exact hu2.drew.cell (HC1.out _ v hj) (fun e => by have h1 := HBP.out.2; have h2 := HN2.out; simp only at e; omega))
  have hdl : (pv (gs.drop i)).length = Nat.min (gs.length - i) (gs.length - i) * 2 := by
    rw [pv_length, List.length_drop, show Nat.min (gs.length - i) (gs.length - i) = gs.length - i from Nat.min_self _]
  have hfit2 : (i + 1) * 2 + (pv (gs.drop i)).length ≤ (splice ROW (i * 2) (pv [p])).length := by
    have := HX.out.1
    rw [splice_len _ _ _ (by rw [hpl]; omega), pv_length, List.length_drop]; omega
  have hone2 := pv_oneCell (gs.drop i)
  have hwi : IntKind.i64.wrap ((i : Int) + 1) = (i : Int) + 1 := by rw [IntKind.wrap_i64]; omega
  have hti : ((i : Int) + 1).toNat = i + 1 := by omega
  have hi0' : (0 : Int) ≤ (i : Int) + 1 := by omega
  have hi1' : (i : Int) ≤ (gs.length : Int) := by omega
  have hci : ¬ (gs.length = i) := by omega
  clear hr2 hu2 hz2 hcn hsrcp
  refine wp_region_kept [] (fun _ => True) (by kernel_rfl) (by trivial) (fun hH => ?_)
  refine wpK.take (i := 0) (v := _) (by simp only [List.getElem?_toArray, List.getElem?_cons_succ, List.getElem?_cons_zero]; rfl) (by kernel_rfl) (by kernel_rfl) (by kernel_rfl) (by kernel_rfl) (by kernel_rfl) (by exact fun _ _ _ h => h) (by first | exact Or.inl ⟨by rfl, by intro w hSw; go_simp; try with_reducible rfl⟩ | exact Or.inr ⟨by rfl, rfl⟩) hH ?_
  try simp only [Act.put, List.setIfInBounds_toArray, List.set_cons_zero, List.set_cons_succ]
  refine wpK.take (i := 1) (v := _) (by simp only [List.getElem?_toArray, List.getElem?_cons_succ, List.getElem?_cons_zero]; rfl) (by kernel_rfl) (by kernel_rfl) (by kernel_rfl) (by kernel_rfl) (by kernel_rfl) (by exact fun _ _ _ h => h) (by first | exact Or.inl ⟨by rfl, by intro w hSw; go_simp; try with_reducible rfl⟩ | exact Or.inr ⟨by rfl, rfl⟩) hH ?_
  try simp only [Act.put, List.setIfInBounds_toArray, List.set_cons_zero, List.set_cons_succ]
  refine wpK.take (i := 2) (v := _) (by simp only [List.getElem?_toArray, List.getElem?_cons_succ, List.getElem?_cons_zero]; rfl) (by kernel_rfl) (by kernel_rfl) (by kernel_rfl) (by kernel_rfl) (by kernel_rfl) (by exact fun _ _ _ h => h) (by first | exact Or.inl ⟨by rfl, by intro w hSw; go_simp; try with_reducible rfl⟩ | exact Or.inr ⟨by rfl, rfl⟩) hH ?_
  try simp only [Act.put, List.setIfInBounds_toArray, List.set_cons_zero, List.set_cons_succ]
  refine wpK.take (i := 3) (v := _) (by simp only [List.getElem?_toArray, List.getElem?_cons_succ, List.getElem?_cons_zero]; rfl) (by kernel_rfl) (by kernel_rfl) (by kernel_rfl) (by kernel_rfl) (by kernel_rfl) (by exact fun _ _ _ h => h) (by first | exact Or.inl ⟨by rfl, by intro w hSw; go_simp; try with_reducible rfl⟩ | exact Or.inr ⟨by rfl, rfl⟩) hH ?_
  try simp only [Act.put, List.setIfInBounds_toArray, List.set_cons_zero, List.set_cons_succ]
  refine wpK.take (i := 4) (v := _) (by simp only [List.getElem?_toArray, List.getElem?_cons_succ, List.getElem?_cons_zero]; rfl) (by kernel_rfl) (by kernel_rfl) (by kernel_rfl) (by kernel_rfl) (by kernel_rfl) (by exact fun _ _ _ h => h) (by first | exact Or.inl ⟨by rfl, by intro w hSw; go_simp; try with_reducible rfl⟩ | exact Or.inr ⟨by rfl, rfl⟩) hH ?_
  try simp only [Act.put, List.setIfInBounds_toArray, List.set_cons_zero, List.set_cons_succ]
  refine wpK.take (i := 5) (v := _) (by simp only [List.getElem?_toArray, List.getElem?_cons_succ, List.getElem?_cons_zero]; rfl) (by kernel_rfl) (by kernel_rfl) (by kernel_rfl) (by kernel_rfl) (by kernel_rfl) (by exact fun _ _ _ h => h) (by first | exact Or.inl ⟨by rfl, by intro w hSw; go_simp; try with_reducible rfl⟩ | exact Or.inr ⟨by rfl, rfl⟩) hH ?_
  try simp only [Act.put, List.setIfInBounds_toArray, List.set_cons_zero, List.set_cons_succ]
  refine wpK.take (i := 6) (v := _) (by simp only [List.getElem?_toArray, List.getElem?_cons_succ, List.getElem?_cons_zero]; rfl) (by kernel_rfl) (by kernel_rfl) (by kernel_rfl) (by kernel_rfl) (by kernel_rfl) (by exact fun _ _ _ h => h) (by first | exact Or.inl ⟨by rfl, by intro w hSw; go_simp; try with_reducible rfl⟩ | exact Or.inr ⟨by rfl, rfl⟩) hH ?_
  try simp only [Act.put, List.setIfInBounds_toArray, List.set_cons_zero, List.set_cons_succ]
  refine wpK.take (i := 7) (v := _) (by simp only [List.getElem?_toArray, List.getElem?_cons_succ, List.getElem?_cons_zero]; rfl) (by kernel_rfl) (by kernel_rfl) (by kernel_rfl) (by kernel_rfl) (by kernel_rfl) (by exact fun _ _ _ h => h) (by first | exact Or.inl ⟨by rfl, by intro w hSw; go_simp; try with_reducible rfl⟩ | exact Or.inr ⟨by rfl, rfl⟩) hH ?_
  try simp only [Act.put, List.setIfInBounds_toArray, List.set_cons_zero, List.set_cons_succ]
  refine wpK.step (i := 8) (by kernel_rfl) (by simp only [List.getElem?_toArray, List.getElem?_cons_succ, List.getElem?_cons_zero]; rfl) (fun K hK => ?_)
  refine step_copyU rfl (.tmp 50) (.tmp 53) 35 35 rfl 51 Try.underlying35 2 size_goods n2 ((i + 1) * 2) (gs.length - i) (G - (i + 1)) ⟨g, i * 2, none⟩ (gs.length - i) (gs.length - i) rfl rfl _ 51 HR2.out (pv (gs.drop i)) hdl HC2.out hfit2 hone2 ?_; intro w3 hr3 hu3 hz3
  refine hK.out _ _ (by trivial) (fun hH => ?_)
  clear hK K
  try simp only [Act.put, List.setIfInBounds_toArray, List.set_cons_zero, List.set_cons_succ]
  refine wpK.done (by kernel_rfl) ?_ _
  have HQ : Hid (SlPost w (.slice (some ⟨g, 0, none⟩) gs.length gs.length) (gs.take i ++ p :: gs.drop i) (.returned (.slice (some ⟨n2, 0, none⟩) (gs.length + 1) G)) w3) := hid (by
    obtain ⟨x1, x2⟩ := HX.out
    have hsp : (splice ROW (i * 2) (pv [p])).length = G * 2 := by rw [splice_len _ _ _ (by rw [hpl]; omega)]; exact x1
    refine ⟨_, rfl, OwnG.mk hr3.out (by simp; omega) hGn hG63 (by rw [splice_len _ _ _ hfit2]; exact hsp) ?_, ?_, ?_⟩
    · have := splice_grow ROW (pv (gs.take i)) (pv [p]) (pv (gs.drop i)) (i * 2) 2 ((gs.length - i) * 2) x2 (by rw [pv_length, List.length_take]; omega) rfl (by rw [pv_length, List.length_drop]) (by omega)
      rw [show i * 2 + 2 + (gs.length - i) * 2 = (gs.length + 1) * 2 by omega, show i * 2 + 2 = (i + 1) * 2 by omega] at this
      rw [this, ← pv_append, ← pv_append]; rfl
    · have h1 := HN2.out
      have hB : Below w.heap.size w w3 := (HB1.out.trans (HU2.out.below HB1.out.size (fun k _ q => by omega))).trans (hu3.below (by have := HU2.out.size; have := HB1.out.size; omega) (fun k _ q => by omega))
      exact Upd.of_below hB
    · intro k hk
      have h1 := HN2.out
      have : k = n2 := by simpa [Value.ownBlock] using hk.symm
      right; omega)
  clear hr3 hu3 hz3 hdl hfit2 hone2 hwi hti hi0' hi1' hci hH
  go_wp2
  go_ret
  exact HQ.out
set_option maxRecDepth 100000 in
set_option maxHeartbeats 4000000 in
theorem sl_InsRoom (gs : List (Int × Int)) (g c : Nat) (p : Int × Int) (bp : Nat) (w : World) (h : OwnG w (.slice (some ⟨g, 0, none⟩) gs.length c) gs) (hl : gs.length ≤ 1000) (hp : Blk w bp #[.int .i64 p.1, .int .i64 p.2]) (hne : bp ≠ g) (i : Nat) (hi : i < gs.length) (hroom : gs.length < c) :
    Calls Try.prog 33 #[.slice (some ⟨g, 0, none⟩) gs.length c, .int .i64 (i : Int), .slice (some ⟨bp, 0, none⟩) 1 1] w (SlPost w (.slice (some ⟨g, 0, none⟩) gs.length c) (gs.take i ++ p :: gs.drop i)) := by
  obtain ⟨g', c', cur, e, hg, hnc, hc63, hcl, htk⟩ := h.form (by omega)
  simp only [Value.slice.injEq, Option.some.injEq, Addr.mk.injEq, and_true, true_and] at e
  obtain ⟨rfl, rfl⟩ := e
  have HP := hid hp
  have HG := hid hg
  have HNE := hid hne
  have HCL : Hid (cur.length = c * 2 ∧ cur.take (gs.length * 2) = pv gs) := hid ⟨hcl, htk⟩
  have hz1 : ¬ ((1 : Int) == 0) = true := by decide
  have hz2 : ((i : Int) == (gs.length : Int)) = false := by simp; omega
  have hov := fun o2 lb cb => overlaps_apart w g bp cur [.int .i64 p.1, .int .i64 p.2] hg hp hne (by omega) 0 o2 1 1 lb cb
  have HC : Hid (∀ (j : Nat) (v : Value), (pv (gs.drop i))[j]? = some v → w.drew.cell? ((⟨g, i * 2, none⟩ : Addr).add j) = some v) := hid (fun j v hj => by
    have hk2 : i * 2 + j < gs.length * 2 := by
      have := (List.getElem?_eq_some_iff.1 hj).1
      rw [pv_length, List.length_drop] at this; omega
    rw [pv_drop, List.getElem?_drop, ← htk, List.getElem?_take, if_pos hk2] at hj
    show w.cell? _ = _
    rw [Addr.add_lit]
    simp [World.cell?, hg, hj])
  have hdl : (pv (gs.drop i)).length = Nat.min (gs.length + 1 - i) (gs.length - i) * 2 := by
    rw [pv_length, List.length_drop, show Nat.min (gs.length + 1 - i) (gs.length - i) = gs.length - i from Nat.min_eq_right (by omega)]
  have hfit2 : (i + 1) * 2 + (pv (gs.drop i)).length ≤ cur.length := by
    rw [hcl, pv_length, List.length_drop]; omega
  have hone2 := pv_oneCell (gs.drop i)
  have HGD : Hid (w.drew.heap[g]? = some (.cells cur.toArray 51 (0, 0))) := hid hg
  have hpl : (pv [p]).length = 2 := rfl
  have hcn : (pv [p]).length = Nat.min 1 (gs.length + 1 - i) * 2 := by rw [hpl, show Nat.min 1 (gs.length + 1 - i) = 1 from Nat.min_eq_left (by omega)]
  have hsrcp : ∀ W, Blk W bp #[.int .i64 p.1, .int .i64 p.2] → ∀ (j : Nat) (v : Value), (pv [p])[j]? = some v → W.cell? ((⟨bp, 0, none⟩ : Addr).add j) = some v := fun W hW j v hj => by
    rw [Addr.add_lit, Nat.zero_add, hW.cell, ← hj]
    have : j < 2 := by have := (List.getElem?_eq_some_iff.1 hj).1; rw [hpl] at this; exact this
    match j, this with
    | 0, _ => rfl
    | 1, _ => rfl
  clear h hp hg hne hcl htk
  go_enter Try.func33, Try.ntmps33
  go_upto_region 15 with (simp only [hov])
  have hwi : IntKind.i64.wrap ((i : Int) + 1) = (i : Int) + 1 := by rw [IntKind.wrap_i64]; omega
  have hti : ((i : Int) + 1).toNat = i + 1 := by omega
  have hi0' : (0 : Int) ≤ (i : Int) + 1 := by omega
  have hi1' : (i : Int) ≤ (gs.length : Int) := by omega
  have hi2' : (i : Int) ≤ (gs.length : Int) + 1 := by omega
  have hci : ¬ (c = i) := by omega
  have hci2 : ¬ (c = i + 1) := by omega
  clear hov
  refine wp_region_kept [] (fun _ => True) (by kernel_rfl) (by trivial) (fun hH => ?_)
  refine wpK.take (i := 0) (v := _) (by simp only [List.getElem?_toArray, List.getElem?_cons_succ, List.getElem?_cons_zero]; rfl) (by kernel_rfl) (by kernel_rfl) (by kernel_rfl) (by kernel_rfl) (by kernel_rfl) (by exact fun _ _ _ h => h) (by first | exact Or.inl ⟨by rfl, by intro w hSw; go_simp; try with_reducible rfl⟩ | exact Or.inr ⟨by rfl, rfl⟩) hH ?_
  try simp only [Act.put, List.setIfInBounds_toArray, List.set_cons_zero, List.set_cons_succ]
  refine wpK.take (i := 1) (v := _) (by simp only [List.getElem?_toArray, List.getElem?_cons_succ, List.getElem?_cons_zero]; rfl) (by kernel_rfl) (by kernel_rfl) (by kernel_rfl) (by kernel_rfl) (by kernel_rfl) (by exact fun _ _ _ h => h) (by first | exact Or.inl ⟨by rfl, by intro w hSw; go_simp; try with_reducible rfl⟩ | exact Or.inr ⟨by rfl, rfl⟩) hH ?_
  try simp only [Act.put, List.setIfInBounds_toArray, List.set_cons_zero, List.set_cons_succ]
  refine wpK.take (i := 2) (v := _) (by simp only [List.getElem?_toArray, List.getElem?_cons_succ, List.getElem?_cons_zero]; rfl) (by kernel_rfl) (by kernel_rfl) (by kernel_rfl) (by kernel_rfl) (by kernel_rfl) (by exact fun _ _ _ h => h) (by first | exact Or.inl ⟨by rfl, by intro w hSw; go_simp; try with_reducible rfl⟩ | exact Or.inr ⟨by rfl, rfl⟩) hH ?_
  try simp only [Act.put, List.setIfInBounds_toArray, List.set_cons_zero, List.set_cons_succ]
  refine wpK.take (i := 3) (v := _) (by simp only [List.getElem?_toArray, List.getElem?_cons_succ, List.getElem?_cons_zero]; rfl) (by kernel_rfl) (by kernel_rfl) (by kernel_rfl) (by kernel_rfl) (by kernel_rfl) (by exact fun _ _ _ h => h) (by first | exact Or.inl ⟨by rfl, by intro w hSw; go_simp; try with_reducible rfl⟩ | exact Or.inr ⟨by rfl, rfl⟩) hH ?_
  try simp only [Act.put, List.setIfInBounds_toArray, List.set_cons_zero, List.set_cons_succ]
  refine wpK.take (i := 4) (v := _) (by simp only [List.getElem?_toArray, List.getElem?_cons_succ, List.getElem?_cons_zero]; rfl) (by kernel_rfl) (by kernel_rfl) (by kernel_rfl) (by kernel_rfl) (by kernel_rfl) (by exact fun _ _ _ h => h) (by first | exact Or.inl ⟨by rfl, by intro w hSw; go_simp; try with_reducible rfl⟩ | exact Or.inr ⟨by rfl, rfl⟩) hH ?_
  try simp only [Act.put, List.setIfInBounds_toArray, List.set_cons_zero, List.set_cons_succ]
  refine wpK.take (i := 5) (v := _) (by simp only [List.getElem?_toArray, List.getElem?_cons_succ, List.getElem?_cons_zero]; rfl) (by kernel_rfl) (by kernel_rfl) (by kernel_rfl) (by kernel_rfl) (by kernel_rfl) (by exact fun _ _ _ h => h) (by first | exact Or.inl ⟨by rfl, by intro w hSw; go_simp; try with_reducible rfl⟩ | exact Or.inr ⟨by rfl, rfl⟩) hH ?_
  try simp only [Act.put, List.setIfInBounds_toArray, List.set_cons_zero, List.set_cons_succ]
  refine wpK.take (i := 6) (v := _) (by simp only [List.getElem?_toArray, List.getElem?_cons_succ, List.getElem?_cons_zero]; rfl) (by kernel_rfl) (by kernel_rfl) (by kernel_rfl) (by kernel_rfl) (by kernel_rfl) (by exact fun _ _ _ h => h) (by first | exact Or.inl ⟨by rfl, by intro w hSw; go_simp; try with_reducible rfl⟩ | exact Or.inr ⟨by rfl, rfl⟩) hH ?_
  try simp only [Act.put, List.setIfInBounds_toArray, List.set_cons_zero, List.set_cons_succ]
  refine wpK.take (i := 7) (v := _) (by simp only [List.getElem?_toArray, List.getElem?_cons_succ, List.getElem?_cons_zero]; rfl) (by kernel_rfl) (by kernel_rfl) (by kernel_rfl) (by kernel_rfl) (by kernel_rfl) (by exact fun _ _ _ h => h) (by first | exact Or.inl ⟨by rfl, by intro w hSw; go_simp; try with_reducible rfl⟩ | exact Or.inr ⟨by rfl, rfl⟩) hH ?_
  try simp only [Act.put, List.setIfInBounds_toArray, List.set_cons_zero, List.set_cons_succ]
  refine wpK.step (i := 8) (by kernel_rfl) (by simp only [List.getElem?_toArray, List.getElem?_cons_succ, List.getElem?_cons_zero]; rfl) (fun K hK => ?_)
  refine step_copyU rfl (.tmp 73) (.tmp 76) 35 35 rfl 51 Try.underlying35 2 size_goods g ((i + 1) * 2) (gs.length - i) (c - (i + 1)) ⟨g, i * 2, none⟩ (gs.length + 1 - i) (c - i) rfl rfl cur 51 HGD.out (pv (gs.drop i)) hdl HC.out hfit2 hone2 ?_; intro w3 hr3 hu3 hz3
  refine hK.out _ _ (by trivial) (fun hH => ?_)
  clear hK K
  try simp only [Act.put, List.setIfInBounds_toArray, List.set_cons_zero, List.set_cons_succ]
  refine wpK.done (by kernel_rfl) ?_ _
  have HP3 := hid (HP.out.upd hu3 (fun q => HNE.out q))
  have hfit3 : i * 2 + (pv [p]).length ≤ (splice cur ((i + 1) * 2) (pv (gs.drop i))).length := by
    have := HCL.out.1
    rw [splice_len _ _ _ hfit2, hpl]; omega
  have HR3 := hid hr3.out
  have HU3 := hid hu3
  have HSL : Hid ((splice cur ((i + 1) * 2) (pv (gs.drop i))).length = c * 2) := hid (by rw [splice_len _ _ _ hfit2]; exact HCL.out.1)
  clear hr3 hu3 hz3 hdl hfit2 hone2 hH hwi hti hi0' hci2
  go_upto_region 17 with (with_reducible refine wpList_copyU rfl (.tmp 80) (.tmp 81) 35 35 rfl 51 Try.underlying35 2 size_goods g (i * 2) (gs.length + 1 - i) (c - i) ⟨bp, 0, none⟩ 1 1 rfl rfl (splice cur ((i + 1) * 2) (pv (gs.drop i))) 51 HR3.out (pv [p]) hcn (hsrcp _ HP3.out) hfit3 (pv_oneCell _) ?_; intro w4 hr4 hu4 hz4)
  have HQ : Hid (SlPost w (.slice (some ⟨g, 0, none⟩) gs.length c) (gs.take i ++ p :: gs.drop i) (.returned (.slice (some ⟨g, 0, none⟩) (gs.length + 1) c)) w4) := hid (by
    obtain ⟨x1, x2⟩ := HCL.out
    refine ⟨_, rfl, OwnG.mk hr4.out (by simp; omega) (by omega) hc63 (by rw [splice_len _ _ _ hfit3]; exact HSL.out) ?_, ?_, fun k hk => .inl hk⟩
    · have hti : cur.take (i * 2) = pv (gs.take i) := by
        rw [pv_take, ← x2, List.take_take, Nat.min_eq_left (by omega)]
      have := splice_room cur (pv (gs.take i)) (pv [p]) (pv (gs.drop i)) (i * 2) 2 ((gs.length - i) * 2) hti (by rw [pv_length, List.length_take]; omega) rfl (by rw [pv_length, List.length_drop]) (by omega)
      rw [show i * 2 + 2 + (gs.length - i) * 2 = (gs.length + 1) * 2 by omega, show i * 2 + 2 = (i + 1) * 2 by omega] at this
      rw [this, ← pv_append, ← pv_append]; rfl
    · have hd : Upd (fun k => (Value.slice (some (⟨g, 0, none⟩ : Addr)) gs.length c).ownBlock = some k) w w.drew := Upd.of_below (Below.refl _ _).drew
      exact (hd.trans HU3.out (fun k _ q => by rw [q]; rfl)).trans hu4 (fun k _ q => by rw [q]; rfl))
  clear hr4 hu4 hz4 hfit3 hcn hsrcp
  go_wp2
  go_ret
  exact HQ.out
/-- slices.Insert of one -/
theorem sl_InsG (gs : List (Int × Int)) (v : Value) (p : Int × Int) (bp : Nat) (w : World) (h : OwnG w v gs) (hl : gs.length ≤ 1000) (hp : Blk w bp #[.int .i64 p.1, .int .i64 p.2]) (hne : v.ownBlock ≠ some bp) (i : Nat) (hi : i ≤ gs.length) :
    Calls Try.prog 33 #[v, .int .i64 (i : Int), .slice (some ⟨bp, 0, none⟩) 1 1] w (SlPost w v (gs.take i ++ p :: gs.drop i)) := by
  by_cases he : i = gs.length
  · subst he
    have := sl_InsEnd gs v p bp w h hl hp
    rw [List.take_of_length_le (Nat.le_refl _), List.drop_of_length_le (Nat.le_refl _)]
    exact this
  · obtain ⟨g, c, cur, rfl, -, hnc, -⟩ := h.form (by omega)
    by_cases hr : gs.length < c
    · exact sl_InsRoom gs g c p bp w h hl hp (fun e => hne (by rw [e]; rfl)) i (by omega) hr
    · obtain rfl : c = gs.length := by omega
      exact sl_InsGrow gs g p bp w h hl hp i (by omega)
set_option maxRecDepth 100000 in
set_option maxHeartbeats 4000000 in
theorem sl_DelG (gs : List (Int × Int)) (v : Value) (w : World) (h : OwnG w v gs) (hl : gs.length ≤ 1000) (i : Nat) (hi : i < gs.length) (j : Int) (hj : j = (i : Int) + 1) :
    Calls Try.prog 35 #[v, .int .i64 (i : Int), .int .i64 j] w (SlPost w v (gs.take i ++ gs.drop (i + 1))) := by
  subst hj
  obtain ⟨g, c, cur, rfl, hg, hnc, hc63, hcl, htk⟩ := h.form (by omega)
  have HG : Hid (w.drew.heap[g]? = some (.cells cur.toArray 51 (0, 0))) := hid hg
  have HCL : Hid (cur.length = c * 2 ∧ cur.take (gs.length * 2) = pv gs) := hid ⟨hcl, htk⟩
  obtain ⟨i0, hi0, hz0, hzs, hzb⟩ := T_goods.info
  have HC : Hid (∀ (j : Nat) (v : Value), (pv (gs.drop (i + 1)))[j]? = some v → w.drew.cell? ((⟨g, (i + 1) * 2, none⟩ : Addr).add j) = some v) := hid (fun j v hj => by
    have hk2 : (i + 1) * 2 + j < gs.length * 2 := by
      have := (List.getElem?_eq_some_iff.1 hj).1
      rw [pv_length, List.length_drop] at this; omega
    rw [pv_drop, List.getElem?_drop, ← htk, List.getElem?_take, if_pos hk2] at hj
    show w.cell? _ = _
    rw [Addr.add_lit]
    simp [World.cell?, hg, hj])
  have hdl : (pv (gs.drop (i + 1))).length = (gs.length - (i + 1)) * 2 := by rw [pv_length, List.length_drop]
  have hfit : i * 2 + (pv (gs.drop (i + 1))).length ≤ cur.length := by rw [hdl]; omega
  have hone := pv_oneCell (gs.drop (i + 1))
  have hroom : i + (gs.length - (i + 1)) ≤ c := by omega
  clear h hg hcl htk
  go_enter Try.func35, Try.ntmps35
  have hz1 : ((i : Int) == (i : Int) + 1) = false := by simp; omega
  go_upto_region 5 with fail
  have hwi : IntKind.i64.wrap ((i : Int) + 1) = (i : Int) + 1 := by rw [IntKind.wrap_i64]; omega
  have hti : ((i : Int) + 1).toNat = i + 1 := by omega
  have hi0' : (0 : Int) ≤ (i : Int) + 1 := by omega
  have hi1' : (i : Int) < (gs.length : Int) := by omega
  have hi2' : (i : Int) ≤ (c : Int) := by omega
  have hi3' : i ≤ c := by omega
  have hi6' : (i : Int) + 1 ≤ (gs.length : Int) := by omega
  by_cases hce : c = i + 1
  · have hnil : gs.drop (i + 1) = [] := List.drop_of_length_le (by omega)
    have hi4' : (i : Int) ≤ (i : Int) + 1 := by omega
    have hi5' : i ≤ i + 1 := by omega
    have HNIL := hid hnil
    have HGL : Hid (∀ P : Nat → Prop, P (i + 1) → P gs.length) := hid (fun P h => by rw [show gs.length = i + 1 by omega]; exact h)
    subst hce
    refine wp_region_kept [7] (fun _ => True) (by kernel_rfl) (by trivial) (fun hH => ?_)
    refine wpK.take (i := 0) (v := _) (by simp only [List.getElem?_toArray, List.getElem?_cons_succ, List.getElem?_cons_zero]; rfl) (by kernel_rfl) (by kernel_rfl) (by kernel_rfl) (by kernel_rfl) (by kernel_rfl) (by exact fun _ _ _ h => h) (by first | exact Or.inl ⟨by rfl, by intro w hSw; go_simp; try with_reducible rfl⟩ | exact Or.inr ⟨by rfl, rfl⟩) hH ?_
    try simp only [Act.put, List.setIfInBounds_toArray, List.set_cons_zero, List.set_cons_succ]
    refine wpK.take (i := 1) (v := _) (by simp only [List.getElem?_toArray, List.getElem?_cons_succ, List.getElem?_cons_zero]; rfl) (by kernel_rfl) (by kernel_rfl) (by kernel_rfl) (by kernel_rfl) (by kernel_rfl) (by exact fun _ _ _ h => h) (by first | exact Or.inl ⟨by rfl, by intro w hSw; go_simp; try with_reducible rfl⟩ | exact Or.inr ⟨by rfl, rfl⟩) hH ?_
    try simp only [Act.put, List.setIfInBounds_toArray, List.set_cons_zero, List.set_cons_succ]
    refine wpK.take (i := 2) (v := _) (by simp only [List.getElem?_toArray, List.getElem?_cons_succ, List.getElem?_cons_zero]; rfl) (by kernel_rfl) (by kernel_rfl) (by kernel_rfl) (by kernel_rfl) (by kernel_rfl) (by exact fun _ _ _ h => h) (by first | exact Or.inl ⟨by rfl, by intro w hSw; go_simp; try with_reducible rfl⟩ | exact Or.inr ⟨by rfl, rfl⟩) hH ?_
    try simp only [Act.put, List.setIfInBounds_toArray, List.set_cons_zero, List.set_cons_succ]
    refine wpK.take (i := 3) (v := _) (by simp only [List.getElem?_toArray, List.getElem?_cons_succ, List.getElem?_cons_zero]; rfl) (by kernel_rfl) (by kernel_rfl) (by kernel_rfl) (by kernel_rfl) (by kernel_rfl) (by exact fun _ _ _ h => h) (by first | exact Or.inl ⟨by rfl, by intro w hSw; go_simp; try with_reducible rfl⟩ | exact Or.inr ⟨by rfl, rfl⟩) hH ?_
    try simp only [Act.put, List.setIfInBounds_toArray, List.set_cons_zero, List.set_cons_succ]
    refine wpK.take (i := 4) (v := _) (by simp only [List.getElem?_toArray, List.getElem?_cons_succ, List.getElem?_cons_zero]; rfl) (by kernel_rfl) (by kernel_rfl) (by kernel_rfl) (by kernel_rfl) (by kernel_rfl) (by exact fun _ _ _ h => h) (by first | exact Or.inl ⟨by rfl, by intro w hSw; go_simp; try with_reducible rfl⟩ | exact Or.inr ⟨by rfl, rfl⟩) hH ?_
    try simp only [Act.put, List.setIfInBounds_toArray, List.set_cons_zero, List.set_cons_succ]
    refine wpK.take (i := 5) (v := _) (by simp only [List.getElem?_toArray, List.getElem?_cons_succ, List.getElem?_cons_zero]; rfl) (by kernel_rfl) (by kernel_rfl) (by kernel_rfl) (by kernel_rfl) (by kernel_rfl) (by exact fun _ _ _ h => h) (by first | exact Or.inl ⟨by rfl, by intro w hSw; go_simp; try with_reducible rfl⟩ | exact Or.inr ⟨by rfl, rfl⟩) hH ?_
    try simp only [Act.put, List.setIfInBounds_toArray, List.set_cons_zero, List.set_cons_succ]
    refine wpK.step (i := 6) (by kernel_rfl) (by simp only [List.getElem?_toArray, List.getElem?_cons_succ, List.getElem?_cons_zero]; rfl) (fun K hK => ?_)
    refine step_appR rfl (.tmp 22) (.tmp 25) 35 rfl 51 i0 2 Try.underlying35 hi0 hzs g i (i + 1) rfl ⟨g, 0, none⟩ 0 0 (pv (gs.drop (i + 1))) rfl (by rw [hnil]; rfl) (by rw [hnil]; intro j u hj; simp [pv] at hj) hone (by omega) cur 51 HG.out hfit ?_; intro w3 hr3 hu3 hz3
    refine hK.out _ _ (by trivial) (fun hH => ?_)
    clear hK K
    try simp only [Act.put, List.setIfInBounds_toArray, List.set_cons_zero, List.set_cons_succ]
    refine wpK.late (i := 7) (by kernel_rfl) (by simp only [List.getElem?_toArray, List.getElem?_cons_succ, List.getElem?_cons_zero]; rfl) (by kernel_rfl) (fun K hK => ?_)
    go_simp
    refine hK.out _ _ ?_
    clear hK K
    try simp only [Act.put, List.setIfInBounds_toArray, List.set_cons_zero, List.set_cons_succ]
    refine wpK.done (by kernel_rfl) ?_ _
    have hNl : gs.length = i + 1 := by omega
    have HNL : Hid ((gs.take i ++ gs.drop (i + 1)).length = i) := hid (by simp; omega)
    have hsl : (splice cur (i * 2) (pv (gs.drop (i + 1)))).length = (i + 1) * 2 := by rw [splice_len _ _ _ hfit]; exact HCL.out.1
    have hfit2 : i * 2 + [Value.int .i64 0, .int .i64 0].length ≤ (splice cur (i * 2) (pv (gs.drop (i + 1)))).length := by rw [hsl]; simp; omega
    have htk2 : (splice cur (i * 2) (pv (gs.drop (i + 1)))).take (i * 2) = pv (gs.take i ++ gs.drop (i + 1)) := by
      have hti : cur.take (i * 2) = pv (gs.take i) := by
        rw [pv_take, ← HCL.out.2, List.take_take, Nat.min_eq_left (by omega)]
      have := splice_drop cur (pv (gs.take i)) (pv (gs.drop (i + 1))) (i * 2) (i * 2 - i * 2) hti (by rw [pv_length, List.length_take]; omega) (by rw [pv_length, List.length_drop]; omega)
      rw [show i * 2 + (i * 2 - i * 2) = i * 2 by omega] at this
      rw [this, ← pv_append]
    have HT2 := hid htk2
    have HSL := hid hsl
    have HR3 := hid hr3.out
    have HU3 := hid hu3
    have hNc : i < i + 1 := by omega
    have hNc2 : ¬ (i + 1 = i) := by omega
    have hNc3 : i + 1 ≤ i + 1 := by omega
    have hNb : i ≤ 1000 := by omega
    clear hsl htk2 hr3 hu3 hz3 hdl hfit hone hroom hH hwi hti hi0' hi1' HC HG
    have hcs0 : (Builtin.zeroCells (Value.agg #[.int .i64 0, .int .i64 0]).cells 1).toList = [.int .i64 0, .int .i64 0] := by kernel_rfl
    have hzv : ∀ w, (zeroValue 51).run Try.prog w = .ok (.agg #[.int .i64 0, .int .i64 0]) w := fun w => by kernel_rfl
    have honez : ∀ v ∈ [Value.int .i64 0, .int .i64 0], v.oneCell' = true := by simp [Value.oneCell']
    have h01 : 0 < 1 := by omega
    have HCS := hid hcs0
    have HZV := hid hzv
    clear hcs0 hzv
    go_upto_region 7 with (with_reducible refine wpList_clearR rfl (.tmp 31) 35 rfl 51 (.agg #[.int .i64 0, .int .i64 0]) Try.underlying35 HZV.out g (i * 2) 1 1 rfl h01 (splice cur (i * 2) (pv (gs.drop (i + 1)))) 51 HR3.out [.int .i64 0, .int .i64 0] HCS.out hfit2 honez ?_; intro w4 hr4 hu4 hz4)
    have HQ : Hid (SlPost w (.slice (some ⟨g, 0, none⟩) gs.length (i + 1)) (gs.take i ++ gs.drop (i + 1)) (.returned (.slice (some ⟨g, 0, none⟩) i (i + 1))) w4) := hid (by
      refine ⟨_, rfl, OwnG.mk hr4.out HNL.out (by omega) hc63 (by rw [splice_len _ _ _ hfit2]; exact HSL.out) (by rw [splice_take _ _ _ _ (Nat.le_refl _) (by rw [HSL.out]; omega)]; exact HT2.out), ?_, fun k hk => .inl hk⟩
      have hd : Upd (fun k => (Value.slice (some (⟨g, 0, none⟩ : Addr)) gs.length (i + 1)).ownBlock = some k) w w.drew := Upd.of_below (Below.refl _ _).drew
      exact (hd.trans HU3.out (fun k _ q => by rw [q]; rfl)).trans hu4 (fun k _ q => by rw [q]; rfl))
    clear hr4 hu4 hz4 hfit2
    go_wp2
    go_ret
    exact HQ.out
  · skip
    refine wp_region_kept [7] (fun _ => True) (by kernel_rfl) (by trivial) (fun hH => ?_)
    refine wpK.take (i := 0) (v := _) (by simp only [List.getElem?_toArray, List.getElem?_cons_succ, List.getElem?_cons_zero]; rfl) (by kernel_rfl) (by kernel_rfl) (by kernel_rfl) (by kernel_rfl) (by kernel_rfl) (by exact fun _ _ _ h => h) (by first | exact Or.inl ⟨by rfl, by intro w hSw; go_simp; try with_reducible rfl⟩ | exact Or.inr ⟨by rfl, rfl⟩) hH ?_
    try simp only [Act.put, List.setIfInBounds_toArray, List.set_cons_zero, List.set_cons_succ]
    refine wpK.take (i := 1) (v := _) (by simp only [List.getElem?_toArray, List.getElem?_cons_succ, List.getElem?_cons_zero]; rfl) (by kernel_rfl) (by kernel_rfl) (by kernel_rfl) (by kernel_rfl) (by kernel_rfl) (by exact fun _ _ _ h => h) (by first | exact Or.inl ⟨by rfl, by intro w hSw; go_simp; try with_reducible rfl⟩ | exact Or.inr ⟨by rfl, rfl⟩) hH ?_
    try simp only [Act.put, List.setIfInBounds_toArray, List.set_cons_zero, List.set_cons_succ]
    refine wpK.take (i := 2) (v := _) (by simp only [List.getElem?_toArray, List.getElem?_cons_succ, List.getElem?_cons_zero]; rfl) (by kernel_rfl) (by kernel_rfl) (by kernel_rfl) (by kernel_rfl) (by kernel_rfl) (by exact fun _ _ _ h => h) (by first | exact Or.inl ⟨by rfl, by intro w hSw; go_simp; try with_reducible rfl⟩ | exact Or.inr ⟨by rfl, rfl⟩) hH ?_
    try simp only [Act.put, List.setIfInBounds_toArray, List.set_cons_zero, List.set_cons_succ]
    refine wpK.take (i := 3) (v := _) (by simp only [List.getElem?_toArray, List.getElem?_cons_succ, List.getElem?_cons_zero]; rfl) (by kernel_rfl) (by kernel_rfl) (by kernel_rfl) (by kernel_rfl) (by kernel_rfl) (by exact fun _ _ _ h => h) (by first | exact Or.inl ⟨by rfl, by intro w hSw; go_simp; try with_reducible rfl⟩ | exact Or.inr ⟨by rfl, rfl⟩) hH ?_
    try simp only [Act.put, List.setIfInBounds_toArray, List.set_cons_zero, List.set_cons_succ]
    refine wpK.take (i := 4) (v := _) (by simp only [List.getElem?_toArray, List.getElem?_cons_succ, List.getElem?_cons_zero]; rfl) (by kernel_rfl) (by kernel_rfl) (by kernel_rfl) (by kernel_rfl) (by kernel_rfl) (by exact fun _ _ _ h => h) (by first | exact Or.inl ⟨by rfl, by intro w hSw; go_simp; try with_reducible rfl⟩ | exact Or.inr ⟨by rfl, rfl⟩) hH ?_
    try simp only [Act.put, List.setIfInBounds_toArray, List.set_cons_zero, List.set_cons_succ]
    refine wpK.take (i := 5) (v := _) (by simp only [List.getElem?_toArray, List.getElem?_cons_succ, List.getElem?_cons_zero]; rfl) (by kernel_rfl) (by kernel_rfl) (by kernel_rfl) (by kernel_rfl) (by kernel_rfl) (by exact fun _ _ _ h => h) (by first | exact Or.inl ⟨by rfl, by intro w hSw; go_simp; try with_reducible rfl⟩ | exact Or.inr ⟨by rfl, rfl⟩) hH ?_
    try simp only [Act.put, List.setIfInBounds_toArray, List.set_cons_zero, List.set_cons_succ]
    refine wpK.step (i := 6) (by kernel_rfl) (by simp only [List.getElem?_toArray, List.getElem?_cons_succ, List.getElem?_cons_zero]; rfl) (fun K hK => ?_)
    refine step_appR rfl (.tmp 22) (.tmp 25) 35 rfl 51 i0 2 Try.underlying35 hi0 hzs g i c rfl ⟨g, (i + 1) * 2, none⟩ (gs.length - (i + 1)) (c - (i + 1)) (pv (gs.drop (i + 1))) rfl hdl HC.out hone hroom cur 51 HG.out hfit ?_; intro w3 hr3 hu3 hz3
    refine hK.out _ _ (by trivial) (fun hH => ?_)
    clear hK K
    try simp only [Act.put, List.setIfInBounds_toArray, List.set_cons_zero, List.set_cons_succ]
    refine wpK.late (i := 7) (by kernel_rfl) (by simp only [List.getElem?_toArray, List.getElem?_cons_succ, List.getElem?_cons_zero]; rfl) (by kernel_rfl) (fun K hK => ?_)
    go_simp
    refine hK.out _ _ ?_
    clear hK K
    try simp only [Act.put, List.setIfInBounds_toArray, List.set_cons_zero, List.set_cons_succ]
    refine wpK.done (by kernel_rfl) ?_ _
    generalize hN : i + (gs.length - (i + 1)) = N
    have hNl : gs.length = N + 1 := by omega
    have HNL : Hid ((gs.take i ++ gs.drop (i + 1)).length = N) := hid (by simp; omega)
    have hsl : (splice cur (i * 2) (pv (gs.drop (i + 1)))).length = c * 2 := by rw [splice_len _ _ _ hfit]; exact HCL.out.1
    have hfit2 : N * 2 + [Value.int .i64 0, .int .i64 0].length ≤ (splice cur (i * 2) (pv (gs.drop (i + 1)))).length := by rw [hsl]; simp; omega
    have htk2 : (splice cur (i * 2) (pv (gs.drop (i + 1)))).take (N * 2) = pv (gs.take i ++ gs.drop (i + 1)) := by
      have hti : cur.take (i * 2) = pv (gs.take i) := by
        rw [pv_take, ← HCL.out.2, List.take_take, Nat.min_eq_left (by omega)]
      have := splice_drop cur (pv (gs.take i)) (pv (gs.drop (i + 1))) (i * 2) (N * 2 - i * 2) hti (by rw [pv_length, List.length_take]; omega) (by rw [pv_length, List.length_drop]; omega)
      rw [show i * 2 + (N * 2 - i * 2) = N * 2 by omega] at this
      rw [this, ← pv_append]
    have HT2 := hid htk2
    have HSL := hid hsl
    have HR3 := hid hr3.out
    have HU3 := hid hu3
    have hNc : N < c := by omega
    have hNc2 : ¬ (c = N) := by omega
    have hNc3 : N + 1 ≤ c := by omega
    have hNb : N ≤ 1000 := by omega
    rw [hNl] at *
    clear hsl htk2 hr3 hu3 hz3 hdl hfit hone hroom hH hwi hti hi0' hi1' HC HG hN
    have hcs0 : (Builtin.zeroCells (Value.agg #[.int .i64 0, .int .i64 0]).cells 1).toList = [.int .i64 0, .int .i64 0] := by kernel_rfl
    have hzv : ∀ w, (zeroValue 51).run Try.prog w = .ok (.agg #[.int .i64 0, .int .i64 0]) w := fun w => by kernel_rfl
    have honez : ∀ v ∈ [Value.int .i64 0, .int .i64 0], v.oneCell' = true := by simp [Value.oneCell']
    have h01 : 0 < 1 := by omega
    have HCS := hid hcs0
    have HZV := hid hzv
    clear hcs0 hzv
    go_upto_region 7 with (with_reducible refine wpList_clearR rfl (.tmp 31) 35 rfl 51 (.agg #[.int .i64 0, .int .i64 0]) Try.underlying35 HZV.out g (N * 2) 1 (c - N) rfl h01 (splice cur (i * 2) (pv (gs.drop (i + 1)))) 51 HR3.out [.int .i64 0, .int .i64 0] HCS.out hfit2 honez ?_; intro w4 hr4 hu4 hz4)
    have HQ : Hid (SlPost w (.slice (some ⟨g, 0, none⟩) (N + 1) c) (gs.take i ++ gs.drop (i + 1)) (.returned (.slice (some ⟨g, 0, none⟩) N c)) w4) := hid (by
      refine ⟨_, rfl, OwnG.mk hr4.out HNL.out (by omega) hc63 (by rw [splice_len _ _ _ hfit2]; exact HSL.out) (by rw [splice_take _ _ _ _ (Nat.le_refl _) (by rw [HSL.out]; omega)]; exact HT2.out), ?_, fun k hk => .inl hk⟩
      have hd : Upd (fun k => (Value.slice (some (⟨g, 0, none⟩ : Addr)) (N + 1) c).ownBlock = some k) w w.drew := Upd.of_below (Below.refl _ _).drew
      exact (hd.trans HU3.out (fun k _ q => by rw [q]; rfl)).trans hu4 (fun k _ q => by rw [q]; rfl))
    clear hr4 hu4 hz4 hfit2
    go_wp2
    go_ret
    exact HQ.out
end Go.Proofs.Ytajfjgekcjkedaa
end
section
/- Contracts of the functions of the package gold, and of its reference: what each computes. -/
namespace Go.Proofs.Ytajfjgekcjkedaa
open Go.RowKit
open Go.Lib (hid)
set_option linter.unusedVariables false

/-- an amount: between 0 and 2^40 -/
def goldR (n : Int) : Bool := decide (0 ≤ n ∧ n ≤ 1099511627776)
theorem goldR_true {n : Int} (h : 0 ≤ n ∧ n ≤ 1099511627776) : goldR n = true := by simpa [goldR] using h
theorem goldR_false {n : Int} (h : ¬ (0 ≤ n ∧ n ≤ 1099511627776)) : goldR n = false := by simpa [goldR] using h

theorem gold_Right (n : Int) (w : World) : Calls Try.prog 30 #[.int .i64 n] w fun e w' => e = .returned (.bool (goldR n)) ∧ w = w' := by
  by_cases h0 : 0 ≤ n
  · by_cases h1 : n ≤ 1099511627776
    · rw [goldR_true ⟨h0, h1⟩]
      go_enter Try.func30, Try.ntmps30
      go_wp2
      go_ret
      exact ⟨rfl, rfl⟩
    · rw [goldR_false (by omega)]
      go_enter Try.func30, Try.ntmps30
      go_wp2
      go_ret
      exact ⟨rfl, rfl⟩
  · rw [goldR_false (by omega)]
    go_enter Try.func30, Try.ntmps30
    go_wp2
    go_ret
    exact ⟨rfl, rfl⟩

theorem gold_both (a b : Int) (w : World) : Calls Try.prog 50 #[.int .i64 a, .int .i64 b] w fun e w' => e = .returned (.bool (goldR a && goldR b)) ∧ w = w' := by
  cases ha : goldR a <;> cases hb : goldR b <;> (
    go_enter Try.func50, Try.ntmps50
    go_wp2_with (go_at_call 30; (with_reducible refine (gold_Right _ _).mono ?_); rintro e w' ⟨rfl, rfl⟩)
    go_ret
    exact ⟨rfl, rfl⟩)

def addE (a b : Int) : Int := if goldR a && goldR b then (if 1099511627776 < a + b then 15 else 0) else 11
def addV (a b : Int) : Int := if addE a b = 0 then a + b else 0
theorem gold_Add (a b : Int) (w : World) : Calls Try.prog 36 #[.int .i64 a, .int .i64 b] w fun e w' => e = .returned (.tuple #[.int .i64 (addV a b), .int .i64 (addE a b)]) ∧ w = w' := by
  cases hr : goldR a && goldR b
  · have hv : addV a b = 0 := by simp [addV, addE, hr]
    have he : addE a b = 11 := by simp [addE, hr]
    rw [hv, he]; clear hv he
    go_enter Try.func36, Try.ntmps36
    go_wp2_with (go_at_call 50; (with_reducible refine (gold_both _ _ _).mono ?_); rintro e w' ⟨rfl, rfl⟩)
    go_ret2
    exact ⟨rfl, rfl⟩
  · have hb : (0 ≤ a ∧ a ≤ 1099511627776) ∧ 0 ≤ b ∧ b ≤ 1099511627776 := by simpa [goldR] using hr
    obtain ⟨⟨a0, a1⟩, b0, b1⟩ := hb
    by_cases hs : 1099511627776 < a + b
    · have he : addE a b = 15 := by simp [addE, hr, hs]
      have hv : addV a b = 0 := by simp [addV, he]
      rw [hv, he]; clear hv he
      have hs' : 1099511627776 - b < a := by omega
      go_enter Try.func36, Try.ntmps36
      go_wp2_with (go_at_call 50; (with_reducible refine (gold_both _ _ _).mono ?_); rintro e w' ⟨rfl, rfl⟩)
      go_ret2
      exact ⟨rfl, rfl⟩
    · have he : addE a b = 0 := by simp [addE, hr, hs]
      have hv : addV a b = a + b := by simp [addV, he]
      rw [hv, he]; clear hv he
      have hs' : ¬ 1099511627776 - b < a := by omega
      go_enter Try.func36, Try.ntmps36
      go_wp2_with (go_at_call 50; (with_reducible refine (gold_both _ _ _).mono ?_); rintro e w' ⟨rfl, rfl⟩)
      go_ret2
      exact ⟨rfl, rfl⟩

def subE (a b : Int) : Int := if goldR a && goldR b then (if a < b then 35 else 0) else 11
def subV (a b : Int) : Int := if subE a b = 0 then a - b else 0
def stepE (a : Int) : Int := if goldR a then 0 else 11
def stepV (a : Int) : Int := if goldR a then max (a / 20) 1 else 0
end Go.Proofs.Ytajfjgekcjkedaa
end
