/- Joined texts, in this order: DiskKeeps. Each one's first remark says what it proves; no condition beyond those that its theorems name. -/
import Derived.Test.YtohknblokejldaaJLawDiskKeeps28
import Derived.Test.YtohknblokejldaaJLawDiskKeeps27
import Derived.Test.YtohknblokejldaaJLawDiskKeeps08
import Derived.Deep.QuietTactic
section
/- The law DiskKeeps, walked. -/
namespace Go.Proofs.Ytohknblokejldaa
open Go.RowKit Go.ChangeShapes Go.WideShapes Go.Deep Go.Joins
open Go.Lib (hid)
set_option linter.unusedVariables false

/-- six strings in memory -/
def Six (w : World) (x : Nat) (L : List (List UInt8)) : Prop := Blk w x (sv L).toArray ∧ L.length = 6
theorem Six.upd {S : Nat → Prop} {w w' : World} {x : Nat} {L : List (List UInt8)} (h : Six w x L) (hu : Upd S w w') (hx : ¬ S x) : Six w' x L := ⟨h.1.upd hu hx, h.2⟩
theorem Six.below {w w' : World} {x : Nat} {L : List (List UInt8)} (h : Six w x L) (hb : Below w.heap.size w w') : Six w' x L := ⟨h.1.below hb, h.2⟩
theorem Six.cell {w : World} {x : Nat} {L : List (List UInt8)} (h : Six w x L) (k : Nat) (hk : k < 6) : w.cell? ⟨x, k, none⟩ = some (.string ⟨(L.getD k []).toArray⟩) ∧ w.frozen? ⟨x, k, none⟩ = false := by
  refine ⟨?_, h.1.unfrozen k⟩
  rw [h.1.cell]
  have hl : k < L.length := by rw [h.2]; exact hk
  simp [sv, hl]
theorem Six.set {w : World} {x : Nat} {L : List (List UInt8)} (h : Six w x L) (k : Nat) (l : List UInt8) : Six (w.setCell ⟨x, k, none⟩ (.string ⟨l.toArray⟩)) x (L.set k l) := by
  refine ⟨?_, by rw [List.length_set]; exact h.2⟩
  have := h.1.set k (.string ⟨l.toArray⟩)
  rw [sv_set]
  simpa using this
theorem list6 {α : Type} {L : List α} (h : L.length = 6) : ∃ a b c d e f, L = [a, b, c, d, e, f] := by
  match L, h with
  | [a, b, c, d, e, f], _ => exact ⟨a, b, c, d, e, f, rfl⟩
/-- all six are written -/
theorem Six.all {w : World} {x : Nat} {a b c d e f : List UInt8} {L : List (List UInt8)} (h : Six w x L) : ∃ wz, wz = (((((w.setCell ⟨x, 0, none⟩ (.string ⟨a.toArray⟩)).setCell ⟨x, 1, none⟩ (.string ⟨b.toArray⟩)).setCell ⟨x, 2, none⟩ (.string ⟨c.toArray⟩)).setCell ⟨x, 3, none⟩ (.string ⟨d.toArray⟩)).setCell ⟨x, 4, none⟩ (.string ⟨e.toArray⟩)).setCell ⟨x, 5, none⟩ (.string ⟨f.toArray⟩) ∧
    Six wz x [a, b, c, d, e, f] ∧ Upd (fun k => k = x) w wz := by
  refine ⟨_, rfl, ?_, ?_⟩
  · have h6 := ((((((h.set 0 a).set 1 b).set 2 c).set 3 d).set 4 e).set 5 f)
    obtain ⟨l0, l1, l2, l3, l4, l5, rfl⟩ := list6 h.2
    exact h6
  · exact (((((Upd.setCell w x 0 _).trans (Upd.setCell _ x 1 _) (fun _ _ q => q)).trans (Upd.setCell _ x 2 _) (fun _ _ q => q)).trans (Upd.setCell _ x 3 _) (fun _ _ q => q)).trans (Upd.setCell _ x 4 _) (fun _ _ q => q)).trans (Upd.setCell _ x 5 _) (fun _ _ q => q)
def z16 : List UInt8 := List.replicate 16 0
/-- what the law's arrays say of the disk -/
structure KeepR (s : Dk) (safe now : List (List UInt8)) : Prop where
  ok : s.Ok
  n6 : s.D.length = 6
  sz : s.size = 16
  safe : safe = s.D
  len : now.length = 6
  now : ∀ i : Nat, i < 6 → now.getD i [] = dkSector s (i : Int)
theorem KeepR.new : KeepR (dkNew 6 16) (List.replicate 6 z16) (List.replicate 6 z16) :=
  ⟨dkNew_ok 6 16 (by omega) (by omega) (by omega) (by omega), rfl, rfl, rfl, rfl, fun i hi => by
    show (List.replicate 6 z16).getD i [] = _
    unfold dkSector
    simp [dkNew, z16]⟩
theorem KeepR.arm {s : Dk} {a b : List (List UInt8)} (h : KeepR s a b) (n : Int) : KeepR (dkArm s n) a b := ⟨h.ok.of_same rfl rfl rfl, h.n6, h.sz, h.safe, h.len, h.now⟩
theorem sector_put {s : Dk} (i : Nat) (k : Int) (l : List UInt8) : dkSector { s with C := aput s.C k l } (i : Int) = if (i : Int) = k then l else dkSector s (i : Int) := by
  unfold dkSector
  simp only
  rw [lookup_aput]
  split <;> rfl
theorem sector_command (s : Dk) (i : Int) : dkSector (dkCommand s).2 i = dkSector s i := by
  unfold dkSector
  rw [(dkCommand_same s).1, (dkCommand_same s).2.1]
theorem command_e (s : Dk) : (dkCommand s).1 = 0 ∨ (dkCommand s).1 = 20 := by
  unfold dkCommand
  split
  · split
    · exact .inr rfl
    · exact .inl rfl
  · exact .inl rfl
/-- a write, and what the law makes of its answer -/
theorem KeepR.write {s : Dk} {a b : List (List UInt8)} (h : KeepR s a b) (i : Int) (l : List UInt8) {e : Int} {s' : Dk} (hw : dkWrite s i l = (e, s')) :
    (s.down = false ∧ 0 ≤ i ∧ i < 6 ∧ l.length = 16 ∧ (e = 0 ∨ e = 20) ∧ KeepR s' a (b.set i.toNat l)) ∨ ((s.down = true ∨ i < 0 ∨ 6 ≤ i ∨ l.length ≠ 16) ∧ e ≠ 0 ∧ (e = 20 → s.down = true) ∧ KeepR s' a b) := by
  by_cases hd : s.down = true
  · right
    have hc : dkCheck s i = 20 := by unfold dkCheck; rw [if_pos hd]
    have : dkWrite s i l = (20, s) := by unfold dkWrite; rw [if_pos (by rw [hc]; decide), hc]
    rw [this] at hw
    obtain ⟨rfl, rfl⟩ := Prod.mk.inj hw
    exact ⟨.inl hd, by decide, fun _ => hd, h⟩
  · by_cases hr : i < 0 ∨ (s.D.length : Int) ≤ i
    · right
      have hc : dkCheck s i = 11 := by unfold dkCheck; rw [if_neg hd, if_pos hr]
      have : dkWrite s i l = (11, s) := by unfold dkWrite; rw [if_pos (by rw [hc]; decide), hc]
      rw [this] at hw
      obtain ⟨rfl, rfl⟩ := Prod.mk.inj hw
      rw [h.n6] at hr
      exact ⟨by rcases hr with q | q; exact .inr (.inl q); exact .inr (.inr (.inl q)), by decide, fun q => by omega, h⟩
    · have hc : dkCheck s i = 0 := by unfold dkCheck; rw [if_neg hd, if_neg hr]
      by_cases hl : l.length = s.size
      · left
        have : dkWrite s i l = dkCommand { s with C := aput s.C i l } := by unfold dkWrite; rw [if_neg (by rw [hc]; decide), if_neg (by simpa using hl)]
        rw [this] at hw
        have hn6 := h.n6
        have hput := h.ok.put i l (by omega) (by omega) hl
        have he := command_e { s with C := aput s.C i l }
        have hs := dkCommand_same { s with C := aput s.C i l }
        have hok := hput.command
        have hsec := sector_command { s with C := aput s.C i l }
        rw [hw] at he hs hok hsec
        refine ⟨by simpa using hd, by omega, by omega, by rw [hl]; exact h.sz, he, ⟨hok, by rw [hs.1]; exact h.n6, by rw [hs.2.2]; exact h.sz, by rw [hs.1]; exact h.safe, by rw [List.length_set]; exact h.len, fun j hj => ?_⟩⟩
        rw [hsec, sector_put, List.getD_eq_getElem?_getD, List.getElem?_set]
        by_cases hij : i.toNat = j
        · rw [if_pos hij, if_pos (by rw [h.len]; omega), if_pos (by omega)]; rfl
        · rw [if_neg hij, if_neg (by omega), ← h.now j hj, List.getD_eq_getElem?_getD]
      · right
        have : dkWrite s i l = (10, s) := by unfold dkWrite; rw [if_neg (by rw [hc]; decide), if_pos hl]
        rw [this] at hw
        obtain ⟨rfl, rfl⟩ := Prod.mk.inj hw
        exact ⟨.inr (.inr (.inr (by rw [← h.sz]; exact hl))), by decide, fun q => by omega, h⟩
theorem KeepR.flush {s : Dk} {a b : List (List UInt8)} (h : KeepR s a b) {e : Int} {s' : Dk} (hw : dkFlush s = (e, s')) : (e = 0 ∧ KeepR s' b b) ∨ (e ≠ 0 ∧ KeepR s' a b) := by
  have hok : s'.Ok := by have := RfRel.flush (x := ⟨s.D, (List.range s.D.length).map (fun (i : Nat) => (s.C.lookup (i : Int)).getD []), s.size, s.armed, s.down, s.left, s.done⟩) ⟨rfl, by simp, fun i hi => by simp [hi], rfl, rfl, rfl, rfl, fun _ => rfl⟩ h.ok; rw [hw] at this; exact this.2.2
  by_cases hd : s.down = true
  · right
    have : dkFlush s = (20, s) := by unfold dkFlush; rw [if_pos hd]
    rw [this] at hw
    obtain ⟨rfl, rfl⟩ := Prod.mk.inj hw
    exact ⟨by decide, h⟩
  · by_cases he : (dkCommand s).1 = 0
    · left
      have : dkFlush s = (0, { (dkCommand s).2 with D := flushD (dkCommand s).2, C := [] }) := by unfold dkFlush; rw [if_neg hd, if_neg (by simpa using he)]
      rw [this] at hw
      obtain ⟨rfl, rfl⟩ := Prod.mk.inj hw
      have hs := dkCommand_same s
      have hD : flushD (dkCommand s).2 = b := by
        apply List.ext_getElem?
        intro i
        unfold flushD
        rw [mixF_at, hs.1, hs.2.1]
        by_cases hi : i < 6
        · rw [List.getElem?_eq_getElem (by rw [h.n6]; exact hi), Option.map_some, if_neg (by simp)]
          have h2 := h.now i hi
          rw [List.getD_eq_getElem?_getD, List.getElem?_eq_getElem (by rw [h.len]; exact hi), Option.getD_some] at h2
          rw [List.getElem?_eq_getElem (by rw [h.len]; exact hi), h2]
          unfold dkSector
          cases s.C.lookup (i : Int) with
          | none => simp [h.n6, hi]
          | some l => rfl
        · rw [List.getElem?_eq_none (by rw [h.n6]; omega), List.getElem?_eq_none (by rw [h.len]; omega)]; rfl
      refine ⟨rfl, ⟨hok, by show (flushD _).length = 6; rw [hD]; exact h.len, by show (dkCommand s).2.size = 16; rw [hs.2.2]; exact h.sz, hD.symm, h.len, fun i hi => ?_⟩⟩
      unfold dkSector
      simp only [List.lookup, Option.getD_none, Int.toNat_natCast, hD]
    · right
      have : dkFlush s = dkCommand s := by unfold dkFlush; rw [if_neg hd, if_pos he]
      rw [this] at hw
      have hs := dkCommand_same s
      have hsec := sector_command s
      rw [hw] at hs hsec he
      exact ⟨he, ⟨hok, by rw [hs.1]; exact h.n6, by rw [hs.2.2]; exact h.sz, by rw [hs.1]; exact h.safe, h.len, fun i hi => by rw [hsec]; exact h.now i hi⟩⟩
/-- behind a crash -/
theorem KeepR.crash {s : Dk} {a b : List (List UInt8)} (h : KeepR s a b) (keep : List Int) (torn cut : Int) (i : Nat) (hi : i < 6) : ∃ l, dkRead (dkCrash s keep torn cut) (i : Int) = (l, 0) ∧ l.length = 16 ∧
    (l = a.getD i [] ∨ l = b.getD i [] ∨ ((i : Int) = torn ∧ l = (b.getD i []).take (cutN cut 16) ++ (a.getD i []).drop (cutN cut 16))) ∧ (a.getD i []).length = 16 ∧ (b.getD i []).length = 16 := by
  have hc : dkCheck (dkCrash s keep torn cut) (i : Int) = 0 := by
    unfold dkCheck
    rw [if_neg (by simp [dkCrash, dkArm]), if_neg]
    simp only [dkCrash, dkArm, mixF_len, h.n6]
    omega
  have hiD : i < s.D.length := by rw [h.n6]; exact hi
  have ha : a.getD i [] = s.D[i] := by rw [h.safe, List.getD_eq_getElem?_getD, List.getElem?_eq_getElem hiD]; rfl
  have hsec : dkSector (dkCrash s keep torn cut) (i : Int) = match s.C.lookup (i : Int) with
    | none => s.D[i]
    | some l => crashF keep torn (cutN cut s.size) (i : Int) l s.D[i] := by
    unfold dkSector
    simp only [dkCrash, dkArm, List.lookup, Option.getD_none, Int.toNat_natCast]
    rw [List.getD_eq_getElem?_getD, mixF_at, List.getElem?_eq_getElem hiD, Option.map_some, if_neg (by simp), Option.getD_some]
    cases s.C.lookup (i : Int) <;> rfl
  have hla : (a.getD i []).length = 16 := by rw [ha, h.ok.sec _ (List.getElem_mem hiD), h.sz]
  have hnow := h.now i hi
  unfold dkSector at hnow
  have hlb : (b.getD i []).length = 16 := by
    rw [hnow]
    cases hl : s.C.lookup (i : Int) with
    | none => rw [Option.getD_none, Int.toNat_natCast, ← h.safe]; exact hla
    | some l => rw [Option.getD_some, (h.ok.lookup hl).2.2.1, h.sz]
  refine ⟨_, by unfold dkRead; rw [if_neg (by rw [hc]; decide)], ?_⟩
  rw [hsec]
  cases hl : s.C.lookup (i : Int) with
  | none =>
    simp only
    rw [← ha]
    exact ⟨hla, .inl rfl, hla, hlb⟩
  | some l =>
    rw [hl, Option.getD_some] at hnow
    simp only
    rw [← ha, ← hnow, h.sz]
    unfold crashF
    by_cases hk : (i : Int) ∈ keep
    · rw [if_pos hk]; exact ⟨hlb, .inr (.inl rfl), hla, hlb⟩
    · rw [if_neg hk]
      by_cases ht : (i : Int) = torn
      · rw [if_pos ht]
        exact ⟨by rw [List.length_append, List.length_take, List.length_drop]; omega, .inr (.inr ⟨ht, rfl⟩), hla, hlb⟩
      · rw [if_neg ht]; exact ⟨hla, .inl rfl, hla, hlb⟩
theorem sv6 (a b c d e f : List UInt8) : (sv [a, b, c, d, e, f]).toArray = #[.string ⟨a.toArray⟩, .string ⟨b.toArray⟩, .string ⟨c.toArray⟩, .string ⟨d.toArray⟩, .string ⟨e.toArray⟩, .string ⟨f.toArray⟩] := rfl
set_option maxRecDepth 100000 in
theorem open_loss {H : Type} {enc : TypeId × Value → H} {w : World} {b0 : Nat} {d0 : DataW H} {p0 : List MemPlace} {v0 : Value} (ok0 : Value.okWide Try.prog w .any b0 49 v0) (k0 : DataW.Trod enc Try.prog w 0 (fun _ => true) true 49 v0 d0 p0) :
    ∃ torn cut kv keep, v0 = .agg #[kv, .int .i64 torn, .int .i64 cut] ∧ SlI w kv keep := by
  obtain ⟨cs, rfl, hsz⟩ := okWide_struct Try.underlying49 ok0
  have h3 : Try.prog.cellsOf 49 = 3 := by kernel_rfl
  rw [h3] at hsz
  obtain ⟨c0, c1, c2, rfl⟩ : ∃ c0 c1 c2, cs = #[c0, c1, c2] := by
    obtain ⟨l⟩ := cs
    obtain ⟨a, b, c, rfl⟩ := listOf3 (l := l) hsz
    exact ⟨a, b, c, rfl⟩
  obtain ⟨fuel, hf⟩ := k0
  obtain ⟨hlen, ys, n', hyl, one⟩ := structE_fields Try.underlying49 (by kernel_rfl) hf
  have hyl3 : ys.length = 3 := hyl
  obtain ⟨z0, z1, z2, rfl⟩ := listOf3 hyl3
  have g0 : DataW.trod enc Try.prog w 0 (fun _ => true) true n' 22 [c0] = some z0 := one 0 _ rfl
  have g1 : DataW.trod enc Try.prog w 0 (fun _ => true) true n' 3 [c1] = some z1 := one 1 _ rfl
  have g2 : DataW.trod enc Try.prog w 0 (fun _ => true) true n' 3 [c2] = some z2 := one 2 _ rfl
  obtain ⟨torn, e1, -, -⟩ := DataW.trod_int Try.underlying3 g1
  obtain ⟨cut, e2, -, -⟩ := DataW.trod_int Try.underlying3 g2
  simp only [List.cons.injEq, and_true] at e1 e2
  subst e1; subst e2
  obtain ⟨l, hl, -⟩ := open_sliF g0
  exact ⟨torn, cut, c0, l, rfl, hl⟩
def filled (k : Nat) : List (List UInt8) := List.replicate k z16 ++ List.replicate (6 - k) []
theorem filled_step (k : Nat) (h : k < 6) : (filled k).set k z16 = filled (k + 1) := by
  unfold filled
  obtain ⟨q, hq⟩ : ∃ q, 6 - k = q + 1 := ⟨5 - k, by omega⟩
  rw [show 6 - (k + 1) = q by omega, hq, List.replicate_succ' (n := k)]
  simp [List.replicate_succ, List.set_append]
def Kp1 (w4 : World) (x6 x7 : Nat) (v37 : Value) (wr : World) : Prop := ∃ k : Nat, v37 = .int .i64 k ∧ k ≤ 6 ∧ Six wr x6 (filled k) ∧ Six wr x7 (filled k) ∧ Upd (fun j => j = x6 ∨ j = x7) w4 wr
def Kp2 (w : World) (n g : Nat) (W : Nat → Prop) (x6 x7 : Nat) (c : Array Value) (v52 : Value) (wr : World) : Prop :=
  ∃ (k : Nat) (s : Dk) (safe now : List (List UInt8)) (R : Nat → Prop), v52 = .int .i64 k ∧ k ≤ n ∧ DiskIs wr g W R s ∧ KeepR s safe now ∧ Six wr x6 safe ∧ Six wr x7 now ∧ (¬ R x6 ∧ ¬ R x7) ∧ Blk wr w.heap.size c ∧ Below w.heap.size w wr
def Kp3 (w : World) (g : Nat) (W R : Nat → Prop) (s : Dk) (safe now : List (List UInt8)) (torn : Int) (x6 x7 : Nat) (c : Array Value) (v13 v116 : Value) (wr : World) : Prop :=
  ∃ (k t : Nat), v116 = .int .i64 k ∧ v13 = .int .i64 t ∧ k ≤ 6 ∧ (t = 0 ∨ (t = 1 ∧ torn < (k : Int))) ∧ DiskIs wr g W R s ∧ Six wr x6 safe ∧ Six wr x7 now ∧ Blk wr w.heap.size c ∧ Below w.heap.size w wr
theorem Blk.c3k {w : World} {g : Nat} {a b c : Value} (h : Blk w g #[a, b, c]) : w.cell? ⟨g, 0, none⟩ = some a ∧ w.cell? ⟨g, 1, none⟩ = some b ∧ w.cell? ⟨g, 2, none⟩ = some c :=
  ⟨by rw [h.cell]; rfl, by rw [h.cell]; rfl, by rw [h.cell]; rfl⟩
set_option maxRecDepth 100000 in
set_option maxHeartbeats 16000000 in
theorem DiskKeeps_walk {H : Type} {enc : TypeId × Value → H} {b0 b1 : Nat} {d0 d1 : DataW H} {p0 p1 : List MemPlace} (v0 v1 : Value) (w : World) (ok0 : Value.okWide Try.prog w .any b0 77 v0) (k0 : DataW.Trod enc Try.prog w 0 (fun _ => true) true 77 v0 d0 p0)
    (ok1 : Value.okWide Try.prog w .any b1 49 v1) (k1 : DataW.Trod enc Try.prog w 0 (fun _ => true) true 49 v1 d1 p1) :
    Calls Try.prog 10 #[v0, v1] w fun e w' => e = .returned (.bool true) ∧ Below w.heap.size w w' := by
  obtain ⟨L, hL⟩ := open_ops05 ok0 k0
  obtain ⟨torn, cut, kv, keep, rfl, hK⟩ := open_loss ok1 k1
  clear ok0 k0 ok1 k1
  have HL := hid hL
  have HK := hid hK
  obtain ⟨bb, hbb⟩ : ∃ bb, smallB L 40 = bb := ⟨_, rfl⟩
  have HBB := hid hbb
  obtain ⟨la0, lc0, rfl, hlc, hcm, -⟩ := hL
  obtain ⟨ka, kc, rfl, -, hk1, hk2, -⟩ := hK
  have hl63 : L.length ≤ 9223372036854775807 := by omega
  have hk63 : keep.length ≤ 9223372036854775807 := by omega
  obtain ⟨cl, hcl⟩ : ∃ cl, cl = #[Value.slice ka keep.length kc, .int .i64 torn, .int .i64 cut] := ⟨_, rfl⟩
  have HCL := hid hcl
  obtain ⟨w0, hw0⟩ : ∃ w0, w0 = w.alloc (.cells #[.slice ka keep.length kc, .int .i64 torn, .int .i64 cut] 49) := ⟨_, rfl⟩
  have HW0 := hid hw0
  have HB0 : Hid (Below w.heap.size w w0) := hid (by rw [hw0]; exact Below.new _ _)
  have HX0 : Hid (Blk w0 w.heap.size cl) := hid (by rw [hw0, hcl]; exact Blk.new _ _ _)
  clear hlc hcm hbb hk1 hk2 hw0 hcl
  go_enter Try.func10, Try.ntmps10
  go_wp2_with fail
  rw [← HW0.out]
  refine (disk_New 6 16 (by omega) (by omega) (by omega) (by omega) w0).mono ?_
  rintro e w1 ⟨g, W, R, rfl, hd1, hW1, hR1, hb1⟩
  have HD1 := hid hd1
  have HWW : Hid (∀ k, W k → w.heap.size < k) := hid (fun k hk => by have := hW1 k hk; have := HX0.out.lt; omega)
  have HB1 := hid (Below.next HB0.out hb1)
  have HX1 := hid (HX0.out.below hb1)
  clear hd1 hW1 hR1 hb1
  go_wp2_with fail
  refine (law05_small L 40 (by omega) _ w1 (HL.out.below opKept HB1.out) bb HBB).mono ?_
  rintro e w3 ⟨rfl, hb3⟩
  have HD3 := hid (HD1.out.below hb3)
  have HB3 := hid (Below.next HB1.out hb3)
  have HX3 := hid (HX1.out.below hb3)
  clear hb3
  have hx3 := HX3.out
  rw [HCL.out] at hx3
  obtain ⟨x30, x31, x32⟩ := hx3.c3k
  clear hx3
  cases bb with
  | false =>
    go_wp2_with fail
    refine (law05_awake w3).mono ?_
    rintro e w4 ⟨rfl, hb4⟩
    have HB4 := hid (Below.next HB3.out hb4)
    clear hb4
    go_wp2_with fail
    go_ret
    exact ⟨rfl, HB4.out⟩
  | true =>
    by_cases hk50 : 50 < keep.length
    · have hki : (50 : Int) < (keep.length : Int) := by omega
      go_wp2_with fail
      refine (law05_awake w3).mono ?_
      rintro e w4 ⟨rfl, hb4⟩
      have HB4 := hid (Below.next HB3.out hb4)
      clear hb4
      go_wp2_with fail
      go_ret
      exact ⟨rfl, HB4.out⟩
    have hki : ¬ (50 : Int) < (keep.length : Int) := by omega
    have hsm := HBB.out
    unfold smallB at hsm
    simp only [Bool.and_eq_true, decide_eq_true_eq] at hsm
    have hl40 := hsm.2
    have HALL := hid hsm.1
    clear hsm
    go_upto_region 6 with fail
    obtain ⟨x6, hx6⟩ : ∃ x6, x6 = w3.heap.size := ⟨_, rfl⟩
    obtain ⟨w4, hw4⟩ : ∃ w4, w4 = (w3.alloc (.cells #[.string ⟨#[]⟩, .string ⟨#[]⟩, .string ⟨#[]⟩, .string ⟨#[]⟩, .string ⟨#[]⟩, .string ⟨#[]⟩] 79)).alloc (.cells #[.string ⟨#[]⟩, .string ⟨#[]⟩, .string ⟨#[]⟩, .string ⟨#[]⟩, .string ⟨#[]⟩, .string ⟨#[]⟩] 79) := ⟨_, rfl⟩
    rw [← hw4, ← hx6]
    have hsz4 : w4.heap.size = x6 + 2 := by rw [hw4, hx6]; simp
    have hb4 : Below w3.heap.size w3 w4 := by rw [hw4]; exact Below.next (Below.new _ _) (Below.new _ _)
    have HS6 : Hid (Six w4 x6 (filled 0)) := hid ⟨by rw [hw4, hx6]; exact Blk.below (Below.new _ _) (Blk.new w3 _ _), rfl⟩
    have HS7 : Hid (Six w4 (x6 + 1) (filled 0)) := hid ⟨by
      rw [hw4, hx6]
      have h := Blk.new (w3.alloc (.cells #[.string ⟨#[]⟩, .string ⟨#[]⟩, .string ⟨#[]⟩, .string ⟨#[]⟩, .string ⟨#[]⟩, .string ⟨#[]⟩] 79)) #[.string ⟨#[]⟩, .string ⟨#[]⟩, .string ⟨#[]⟩, .string ⟨#[]⟩, .string ⟨#[]⟩, .string ⟨#[]⟩] 79
      have e : (w3.alloc (.cells #[.string ⟨#[]⟩, .string ⟨#[]⟩, .string ⟨#[]⟩, .string ⟨#[]⟩, .string ⟨#[]⟩, .string ⟨#[]⟩] 79)).heap.size = w3.heap.size + 1 := by simp
      rw [e] at h
      exact h, rfl⟩
    have HD4 := hid (HD3.out.below hb4)
    have HB4 := hid (Below.next HB3.out hb4)
    have HX4 := hid (HX3.out.below hb4)
    have HWL : Hid (∀ k, W k → k < x6) := hid (by rw [hx6]; obtain ⟨b, dv, V, M, h⟩ := HD3.out; exact h.wlt)
    have HRL : Hid (∀ k, R k → k < x6) := hid (by rw [hx6]; obtain ⟨b, dv, V, M, h⟩ := HD3.out; exact h.rlt)
    have HXW : Hid (w.heap.size < x6) := hid (by rw [hx6]; exact HX3.out.lt)
    have HSZ4 := hid hsz4
    clear hw4 hsz4 hb4 hx6 x30 x31 x32
    go_wp2_with fail
    go_loopw [37] (fun v37 wr => Kp1 w4 x6 (x6 + 1) v37 wr) (fun v37 _ => 6 - (intOf v37).toNat)
    case atStart => exact ⟨0, rfl, by omega, HS6.out, HS7.out, Upd.refl _ _⟩
    case round =>
      clear HS6 HS7
      obtain ⟨k, rfl, hk, hs6, hs7, hu⟩ := hrel
      have H6 := hid hs6
      have H7 := hid hs7
      have HU := hid hu
      clear hs6 hs7 hu
      by_cases hlt : k < 6
      · have k0 : (0 : Int) ≤ (k : Int) := by omega
        have k1 : (k : Int) < 6 := by omega
        obtain ⟨q, hq⟩ : ∃ q : ByteArray, q = ⟨z16.toArray⟩ := ⟨_, rfl⟩
        have HQ := hid hq
        clear hq
        go_upto_region 8 with fail
        go_upto_region 9 with (at_make; refine wpList_make T_bytes rfl _ rfl _ _ rfl wr.heap.size _ _ _ _ 16 16 rfl rfl rfl rfl (Nat.le_refl _) (by omega) (Nat.le_refl _) ?_; intro w6 hown6 hgr6; have hb6 := (Upd.of_grown hgr6).below (Nat.le_refl _) (fun _ _ q => by cases q); have hst6 := (show SlB w6 (.slice (some ⟨wr.heap.size, 0, none⟩) 16 16) z16 from ownsRow.slb (l := z16) hown6 (by simp [z16])).str w6 (Below.refl _ _); rw [← HQ.out] at hst6; obtain ⟨h6c, h6f⟩ := (H6.out.below hb6).cell k hlt)
        have H66 := hid ((H6.out.below hb6).set k z16)
        have H76 := hid ((H7.out.below hb6).upd (Upd.setCell w6 x6 k (.string q)) (fun z => by omega))
        have HU6 : Hid (Upd (fun j => j = x6 ∨ j = x6 + 1) w4 (w6.setCell ⟨x6, k, none⟩ (.string q))) := hid ((HU.out.trans (Upd.of_below (S := fun _ => False) hb6) (fun _ _ q => q.elim)).trans (Upd.setCell w6 x6 k _) (fun _ _ q => .inl q))
        rw [filled_step k hlt, ← HQ.out] at H66
        obtain ⟨w7, hw7⟩ : ∃ w7, w7 = w6.setCell ⟨x6, k, none⟩ (.string q) := ⟨_, rfl⟩
        rw [← hw7] at H66 H76 HU6 ⊢
        have hcq := (H66.out.cell k hlt).1
        have hfk : (filled (k + 1)).getD k [] = z16 := by
          rw [← filled_step k hlt, List.getD_eq_getElem?_getD, List.getElem?_set, if_pos rfl, if_pos (by rw [H6.out.2]; exact hlt)]; rfl
        rw [hfk, ← HQ.out] at hcq
        obtain ⟨h7c, h7f⟩ := H76.out.cell k hlt
        have H77 := hid (H76.out.set k z16)
        have H67 := hid (H66.out.upd (Upd.setCell w7 (x6 + 1) k (.string q)) (fun z => by omega))
        have HU7 : Hid (Upd (fun j => j = x6 ∨ j = x6 + 1) w4 (w7.setCell ⟨x6 + 1, k, none⟩ (.string q))) := hid (HU6.out.trans (Upd.setCell w7 (x6 + 1) k _) (fun _ _ q => .inr q))
        rw [filled_step k hlt, ← HQ.out] at H77
        clear hw7 hfk hown6 hgr6 hb6 hst6 h6c h6f
        go_wp2_with fail
        go_roundw
        case rel => exact ⟨k + 1, by go_num, by omega, H67.out, H77.out, HU7.out⟩
        case measure => simp [intOf]; omega
      · have hk6 : filled k = List.replicate 6 z16 := by
          have : k = 6 := by omega
          subst this; rfl
        rw [hk6] at H6 H7
        have HX5 := hid (HX4.out.upd HU.out (fun q => by have := HXW.out; omega))
        have HD5 := hid (HD4.out.upd HU.out (fun j q z => by have := HWL.out j z; omega) (fun j q z => by have := HRL.out j z; omega))
        have HB5 : Hid (Below w.heap.size w wr) := hid (HB4.out.trans (HU.out.below HB4.out.size (fun j _ q => by have := HXW.out; omega)))
        have hk6i : ¬ (k : Int) < 6 := by omega
        clear hk6 hk
        go_wp2_with fail
        obtain ⟨wo, rfl⟩ : ∃ wo : World, wo = wr := ⟨_, rfl⟩
        go_loopw [52] (fun v52 wr => Kp2 w L.length g W x6 (x6 + 1) cl v52 wr) (fun v52 _ => L.length - (intOf v52).toNat)
        case atStart => exact ⟨0, _, _, _, R, rfl, by omega, HD5.out, KeepR.new, H6.out, H7.out, ⟨fun z => by have := HRL.out _ z; omega, fun z => by have := HRL.out _ z; omega⟩, HX5.out, HB5.out⟩
        case round =>
          clear H6 H7 HX5 HD5 HB5
          obtain ⟨k, s, safe, now, R, rfl, hk, hd, hkr, hs6, hs7, hR, hx, hb⟩ := hrel
          have HD := hid hd
          have HKR := hid hkr
          have H6 := hid hs6
          have H7 := hid hs7
          have HR := hid hR
          have HX := hid hx
          have HB := hid hb
          clear hd hkr hs6 hs7 hR hx
          by_cases hlt : k < L.length
          · obtain ⟨o, ho⟩ : ∃ o, L[k]? = some o := ⟨_, List.getElem?_eq_getElem hlt⟩
            obtain ⟨ab, off, da, dc, ja, jc, rfl, c0, c1, c2, c3, c4, c5, c6, hsd, hsk⟩ := HL.out.op05 hb ho
            have hok := List.all_eq_true.1 HALL.out o (List.mem_of_getElem? ho)
            unfold okOp at hok
            simp only [Bool.and_eq_true, decide_eq_true_eq] at hok
            have hdl := hok.1
            clear hok
            obtain ⟨kd, sc, nn, dl, kl, tn, ct⟩ := o
            simp only at c0 c1 c2 c3 c4 c5 c6 hsd hdl
            obtain ⟨w5, hw5⟩ : ∃ w5, w5 = wr.alloc (.cells #[.int .i64 kd, .int .i64 sc, .int .i64 nn, .slice da dl.length dc, .slice ja kl.length jc, .int .i64 tn, .int .i64 ct] 81) := ⟨_, rfl⟩
            have HW5 := hid hw5
            have hbn : Below wr.heap.size wr w5 := by rw [hw5]; exact Below.new _ _
            have HBX : Hid (Blk w5 wr.heap.size #[.int .i64 kd, .int .i64 sc, .int .i64 nn, .slice da dl.length dc, .slice ja kl.length jc, .int .i64 tn, .int .i64 ct]) := hid (by rw [hw5]; exact Blk.new _ _ _)
            have HD5 := hid (HD.out.below hbn)
            have H65 := hid (H6.out.below hbn)
            have H75 := hid (H7.out.below hbn)
            have HX5 := hid (HX.out.below hbn)
            have HB5 := hid (Below.next hb hbn)
            have HSD0 := hid hsd
            have HSD := hid (hsd.below HB5.out)
            have HL6 : Hid (x6 < wr.heap.size ∧ x6 + 1 < wr.heap.size) := hid ⟨H6.out.1.lt, H7.out.1.lt⟩
            have HS5 : Hid (wr.heap.size < w5.heap.size) := hid (by rw [hw5]; simp)
            obtain ⟨q, hq⟩ : ∃ q : ByteArray, q = ⟨dl.toArray⟩ := ⟨_, rfl⟩
            have HQ := hid hq
            have e0 : (0 : Int) ≤ (k : Int) := by omega
            have e1 : (k : Int) < (L.length : Int) := by omega
            clear ho hsd hsk hw5 hbn hb hq HL
            go_upto_region 14 with fail
            rw [← HW5.out]
            have hbx := HBX.out.c7
            obtain ⟨y0, y1, y2, y3, -, -, -⟩ := hbx
            clear c0 c1 c2 c3 c4 c5 c6
            by_cases hk1 : kd = 1
            · have t1 : (kd == 1) = true := by simpa using hk1
              obtain ⟨dn, hdn⟩ : ∃ dn, s.down = dn := ⟨_, rfl⟩
              have hDn := disk_Down s g W R w5 HD5.out
              rw [hdn] at hDn
              have HDN := hid hDn
              have HDE := hid hdn
              obtain ⟨er, s1, hw1⟩ : ∃ er s1, dkWrite s sc dl = (er, s1) := ⟨_, _, rfl⟩
              have HWR := hid hw1
              clear hDn hdn hw1 hk1
              go_wp2_with fail
              refine HDN.out.mono ?_
              rintro e w5' ⟨rfl, rfl⟩
              go_wp2_with fail
              refine (disk_Write s sc dl _ g W R w5 HD5.out HSD.out (by omega) er s1 HWR).mono ?_
              rintro e w6 ⟨R6, rfl, hd6, hr6, hu6⟩
              have HD6 := hid hd6
              have HR6 : Hid (¬ R6 x6 ∧ ¬ R6 (x6 + 1)) := hid (by
                have := HL6.out; have := HS5.out
                exact ⟨fun z => (hr6 _ z).elim HR.out.1 (fun z => by omega), fun z => (hr6 _ z).elim HR.out.2 (fun z => by omega)⟩)
              have H66 := hid (H65.out.upd hu6 (fun z => by have := HWL.out _ z; omega))
              have H76 := hid (H75.out.upd hu6 (fun z => by have := HWL.out _ z; omega))
              have HX6 := hid (HX5.out.upd hu6 (fun z => by have := HWW.out _ z; omega))
              have hBX6 := HBX.out.upd hu6 (fun z => by have := HWL.out _ z; have := HL6.out; omega)
              obtain ⟨-, z1, -, z3, -, -, -⟩ := hBX6.c7
              have HB6 : Hid (Below w.heap.size w w6) := hid (HB5.out.trans (hu6.below HB5.out.size (fun j _ q => by have := HWW.out j q; omega)))
              have hstr := (HSD.out.updE hu6 (fun j hj => by
                by_cases hnil : dl = []
                · exact .inl hnil
                · right
                  intro qq
                  have h1 := HWW.out j qq
                  obtain ⟨aa, cc, ee, -, hrd, -⟩ := HSD0.out
                  simp only [Value.slice.injEq, true_and] at ee
                  obtain ⟨rfl, rfl⟩ := ee
                  obtain ⟨b', o', z, hbz, hcz, -⟩ := hrd.byte 0 (List.length_pos_iff.2 hnil)
                  subst hbz
                  have e1 : b' = j := by simpa [Value.ownBlock] using hj
                  have := World.block_lt_of_cell? w _ hcz
                  simp only at this
                  omega)).str w6 (Below.refl _ _)
              rw [← HQ.out] at hstr
              have hcase := HKR.out.write sc dl HWR.out
              clear hd6 hr6 hu6 hBX6 y0 y1 y2 y3
              rcases hcase with ⟨g1, g2, g3, g4, g5, g6⟩ | ⟨g1, g2, g3, g4⟩
              · rw [HDE.out] at g1
                subst g1
                obtain ⟨i, hi⟩ : ∃ i : Nat, sc = (i : Int) := ⟨sc.toNat, by omega⟩
                subst hi
                have e16 : ((dl.length : Int) == 16) = true := by simp; omega
                rw [Int.toNat_natCast] at g6
                have HK6 := hid g6
                obtain ⟨i7c, i7f⟩ := H76.out.cell i (by omega)
                have H67 := hid (H66.out.upd (Upd.setCell w6 (x6 + 1) i (.string q)) (fun z => by omega))
                have H77 := hid (H76.out.set i dl)
                have HD7 := hid (HD6.out.upd (Upd.setCell w6 (x6 + 1) i (.string q)) (fun j hj z => by have := HWL.out j z; omega) (fun j hj z => by subst hj; exact HR6.out.2 z))
                have HX7 := hid (HX6.out.upd (Upd.setCell w6 (x6 + 1) i (.string q)) (fun z => by have := HXW.out; omega))
                have HB7 : Hid (Below w.heap.size w (w6.setCell ⟨x6 + 1, i, none⟩ (.string q))) := hid (HB6.out.trans ((Upd.setCell w6 (x6 + 1) i (.string q)).below HB6.out.size (fun j _ z => by have := HXW.out; omega)))
                rw [← HQ.out] at H77
                rcases g5 with rfl | rfl
                · clear g6 g4
                  go_wp2_with fail
                  go_roundw
                  case rel => exact ⟨k + 1, s1, safe, _, R6, by go_num, by omega, HD7.out, HK6.out, H67.out, H77.out, HR6.out, HX7.out, HB7.out⟩
                  case measure => simp [intOf]; omega
                · clear g6 g4
                  go_wp2_with fail
                  go_roundw
                  case rel => exact ⟨k + 1, s1, safe, _, R6, by go_num, by omega, HD7.out, HK6.out, H67.out, H77.out, HR6.out, HX7.out, HB7.out⟩
                  case measure => simp [intOf]; omega
              · have HK6 := hid g4
                have e0 : (er == 0) = false := by simpa using g2
                by_cases h20 : er = 20
                · have hd := g3 h20
                  rw [HDE.out] at hd
                  subst hd; subst h20
                  clear g1 g2 g3 g4
                  go_wp2_with fail
                  go_roundw
                  case rel => exact ⟨k + 1, s1, safe, now, R6, by go_num, by omega, HD6.out, HK6.out, H66.out, H76.out, HR6.out, HX6.out, HB6.out⟩
                  case measure => simp [intOf]; omega
                · have e20 : (er == 20) = false := by simpa using h20
                  clear g1 g2 g3 g4
                  go_wp2_with fail
                  go_roundw
                  case rel => exact ⟨k + 1, s1, safe, now, R6, by go_num, by omega, HD6.out, HK6.out, H66.out, H76.out, HR6.out, HX6.out, HB6.out⟩
                  case measure => simp [intOf]; omega
            have t1 : (kd == 1) = false := by simpa using hk1
            by_cases hk2 : kd = 2
            · have t2 : (kd == 2) = true := by simpa using hk2
              obtain ⟨er, s1, hw1⟩ : ∃ er s1, dkFlush s = (er, s1) := ⟨_, _, rfl⟩
              have HFL := hid hw1
              clear hw1 hk1 hk2
              go_wp2_with fail
              refine (disk_Flush s HKR.out.ok g W R w5 HD5.out er s1 HFL).mono ?_
              rintro e w6 ⟨rfl, hd6, hu6⟩
              have HD6 := hid hd6
              have H66 := hid (H65.out.upd hu6 (fun z => by have := HWL.out _ z; omega))
              have H76 := hid (H75.out.upd hu6 (fun z => by have := HWL.out _ z; omega))
              have HX6 := hid (HX5.out.upd hu6 (fun z => by have := HWW.out _ z; omega))
              have HB6 : Hid (Below w.heap.size w w6) := hid (HB5.out.trans (hu6.below HB5.out.size (fun j _ q => by have := HWW.out j q; omega)))
              have hcase := HKR.out.flush HFL.out
              clear hd6 hu6 y0 y1 y2 y3
              rcases hcase with ⟨rfl, g4⟩ | ⟨g2, g4⟩
              · have HK6 := hid g4
                obtain ⟨la, lb, lc, ld, le, lf, hnow⟩ := list6 H76.out.2
                obtain ⟨qa, hqa⟩ : ∃ q : ByteArray, q = ⟨la.toArray⟩ := ⟨_, rfl⟩
                obtain ⟨qb, hqb⟩ : ∃ q : ByteArray, q = ⟨lb.toArray⟩ := ⟨_, rfl⟩
                obtain ⟨qc, hqc⟩ : ∃ q : ByteArray, q = ⟨lc.toArray⟩ := ⟨_, rfl⟩
                obtain ⟨qd, hqd⟩ : ∃ q : ByteArray, q = ⟨ld.toArray⟩ := ⟨_, rfl⟩
                obtain ⟨qe, hqe⟩ : ∃ q : ByteArray, q = ⟨le.toArray⟩ := ⟨_, rfl⟩
                obtain ⟨qf, hqf⟩ : ∃ q : ByteArray, q = ⟨lf.toArray⟩ := ⟨_, rfl⟩
                obtain ⟨wz, hwz, hz6, huz⟩ := H66.out.all (a := la) (b := lb) (c := lc) (d := ld) (e := le) (f := lf)
                have h7x := H76.out
                rw [← hnow] at hz6
                obtain ⟨a0, -⟩ := h7x.cell 0 (by omega)
                obtain ⟨a1, -⟩ := h7x.cell 1 (by omega)
                obtain ⟨a2, -⟩ := h7x.cell 2 (by omega)
                obtain ⟨a3, -⟩ := h7x.cell 3 (by omega)
                obtain ⟨a4, -⟩ := h7x.cell 4 (by omega)
                obtain ⟨a5, -⟩ := h7x.cell 5 (by omega)
                rw [hnow] at a0 a1 a2 a3 a4 a5
                replace a0 : w6.cell? ⟨x6 + 1, 0, none⟩ = some (.string qa) := by rw [hqa]; exact a0
                replace a1 : w6.cell? ⟨x6 + 1, 1, none⟩ = some (.string qb) := by rw [hqb]; exact a1
                replace a2 : w6.cell? ⟨x6 + 1, 2, none⟩ = some (.string qc) := by rw [hqc]; exact a2
                replace a3 : w6.cell? ⟨x6 + 1, 3, none⟩ = some (.string qd) := by rw [hqd]; exact a3
                replace a4 : w6.cell? ⟨x6 + 1, 4, none⟩ = some (.string qe) := by rw [hqe]; exact a4
                replace a5 : w6.cell? ⟨x6 + 1, 5, none⟩ = some (.string qf) := by rw [hqf]; exact a5
                rw [← hqa, ← hqb, ← hqc, ← hqd, ← hqe, ← hqf] at hwz
                have f0 := H66.out.1.unfrozen 0
                have f1 := H66.out.1.unfrozen 1
                have f2 := H66.out.1.unfrozen 2
                have f3 := H66.out.1.unfrozen 3
                have f4 := H66.out.1.unfrozen 4
                have f5 := H66.out.1.unfrozen 5
                obtain ⟨d0, -⟩ := H66.out.cell 0 (by omega)
                obtain ⟨d1, -⟩ := H66.out.cell 1 (by omega)
                obtain ⟨d2, -⟩ := H66.out.cell 2 (by omega)
                obtain ⟨d3, -⟩ := H66.out.cell 3 (by omega)
                obtain ⟨d4, -⟩ := H66.out.cell 4 (by omega)
                obtain ⟨d5, -⟩ := H66.out.cell 5 (by omega)
                have HZ6 := hid hz6
                have HZ7 := hid (H76.out.upd huz (fun z => by omega))
                have HZD := hid (HD6.out.upd huz (fun j hj z => by have := HWL.out j z; omega) (fun j hj z => by subst hj; exact HR.out.1 z))
                have HZX := hid (HX6.out.upd huz (fun z => by have := HXW.out; omega))
                have HZB : Hid (Below w.heap.size w wz) := hid (HB6.out.trans (huz.below HB6.out.size (fun j _ z => by have := HXW.out; omega)))
                have HWZ := hid hwz
                clear g4 hnow hqa hqb hqc hqd hqe hqf hwz hz6 huz h7x
                go_upto_region 25 with fail
                rw [← HWZ.out]
                clear a0 a1 a2 a3 a4 a5 f0 f1 f2 f3 f4 f5 d0 d1 d2 d3 d4 d5
                go_wp2_with fail
                go_roundw
                case rel => exact ⟨k + 1, s1, now, now, R, by go_num, by omega, HZD.out, HK6.out, HZ6.out, HZ7.out, HR.out, HZX.out, HZB.out⟩
                case measure => simp [intOf]; omega
              · have HK6 := hid g4
                have e0 : (er == 0) = false := by simpa using g2
                clear g2 g4
                go_wp2_with fail
                go_roundw
                case rel => exact ⟨k + 1, s1, safe, now, R, by go_num, by omega, HD6.out, HK6.out, H66.out, H76.out, HR.out, HX6.out, HB6.out⟩
                case measure => simp [intOf]; omega
            have t2 : (kd == 2) = false := by simpa using hk2
            by_cases hk4 : kd = 4
            · have t4 : (kd == 4) = true := by simpa using hk4
              clear hk1 hk2 hk4
              go_wp2_with fail
              refine (disk_Arm s nn g W R w5 HD5.out).mono ?_
              rintro e w6 ⟨rfl, hd6, hu6⟩
              have HD6 := hid hd6
              have H66 := hid (H65.out.upd hu6 (fun z => by have := HWL.out _ z; omega))
              have H76 := hid (H75.out.upd hu6 (fun z => by have := HWL.out _ z; omega))
              have HX6 := hid (HX5.out.upd hu6 (fun z => by have := HWW.out _ z; omega))
              have HB6 : Hid (Below w.heap.size w w6) := hid (HB5.out.trans (hu6.below HB5.out.size (fun j _ q => by have := HWW.out j q; omega)))
              clear hd6 hu6 y0 y1 y2 y3
              go_wp2_with fail
              go_roundw
              case rel => exact ⟨k + 1, _, safe, now, R, by go_num, by omega, HD6.out, HKR.out.arm nn, H66.out, H76.out, HR.out, HX6.out, HB6.out⟩
              case measure => simp [intOf]; omega
            have t4 : (kd == 4) = false := by simpa using hk4
            clear hk1 hk2 hk4 y1 y2 y3
            go_wp2_with fail
            go_roundw
            case rel => exact ⟨k + 1, s, safe, now, R, by go_num, by omega, HD5.out, HKR.out, H65.out, H75.out, HR.out, HX5.out, HB5.out⟩
            case measure => simp [intOf]; omega
          · have hki2 : ¬ (k : Int) < (L.length : Int) := by omega
            have hx := HX.out
            rw [HCL.out] at hx
            obtain ⟨x30, x31, x32⟩ := hx.c3k
            have HKV := hid (HK.out.below hb)
            clear hx hlt hk hb
            go_wp2_with fail
            refine (disk_Crash s HKR.out.ok keep torn cut _ g W R wr HD.out HKV.out (fun j hj => (HK.out.lt j hj).imp id (fun q z => by have := HWW.out j z; omega))).mono ?_
            rintro e w5 ⟨R5, rfl, hd5, hr5, hu5⟩
            obtain ⟨sc, hsc⟩ : ∃ sc, sc = dkCrash s keep torn cut := ⟨_, rfl⟩
            have HSC := hid hsc
            rw [← hsc] at hd5
            have HD5 := hid hd5
            have H65 := hid (H6.out.upd hu5 (fun z => by have := HWL.out _ z; omega))
            have H75 := hid (H7.out.upd hu5 (fun z => by have := HWL.out _ z; omega))
            have HX5 := hid (HX.out.upd hu5 (fun z => by have := HWW.out _ z; omega))
            have HB5 : Hid (Below w.heap.size w w5) := hid (HB.out.trans (hu5.below HB.out.size (fun j _ q => by have := HWW.out j q; omega)))
            clear hsc hd5 hr5 hu5 x30 x31 x32 hki2
            go_wp2_with fail
            go_loopw [13, 116] (fun v13 v116 wr => Kp3 w g W R5 sc safe now torn x6 (x6 + 1) cl v13 v116 wr) (fun _ v116 _ => 6 - (intOf v116).toNat)
            case atStart => exact ⟨0, 0, rfl, rfl, by omega, .inl rfl, HD5.out, H65.out, H75.out, HX5.out, HB5.out⟩
            case round =>
              clear HD5 H65 H75 HX5 HB5
              obtain ⟨k, t, rfl, rfl, hk, ht, hd, hs6, hs7, hx, hb⟩ := hrel
              have HD := hid hd
              have H6 := hid hs6
              have H7 := hid hs7
              have HX := hid hx
              have HB := hid hb
              clear hd hs6 hs7
              by_cases hlt : k < 6
              · have k0 : (0 : Int) ≤ (k : Int) := by omega
                have k1 : (k : Int) < 6 := by omega
                obtain ⟨l, hrd, hl16, hcase, ha16, hb16⟩ := HKR.out.crash keep torn cut k hlt
                rw [← HSC.out] at hrd
                have HRD := hid hrd
                have HL16 := hid hl16
                obtain ⟨sa, hsa⟩ : ∃ x, x = safe.getD k [] := ⟨_, rfl⟩
                obtain ⟨na, hna⟩ : ∃ x, x = now.getD k [] := ⟨_, rfl⟩
                rw [← hsa] at ha16 hcase
                rw [← hna] at hb16 hcase
                have HA16 := hid ha16
                have HB16 := hid hb16
                clear hrd hl16 ha16 hb16
                go_wp2_with fail
                refine (disk_Read sc (k : Int) g W R5 wr HD.out l 0 HRD (by have := HL16.out; omega)).mono ?_
                rintro e w6 ⟨v6, rfl, hown6, hb6⟩
                have hsl6 := ownsRow.slb hown6 (by have := HL16.out; omega)
                have HSL6 := hid hsl6
                obtain ⟨a6, c6', rfl, -⟩ := hsl6
                have HB6 := hid (Below.next hb hb6)
                have HD6 := hid (HD.out.below hb6)
                have H66 := hid (H6.out.below hb6)
                have H76 := hid (H7.out.below hb6)
                have HX6 := hid (HX.out.below hb6)
                clear hown6 hb6 hx hb
                obtain ⟨q, hq⟩ : ∃ q : ByteArray, q = ⟨l.toArray⟩ := ⟨_, rfl⟩
                obtain ⟨qs, hqs⟩ : ∃ q : ByteArray, q = ⟨sa.toArray⟩ := ⟨_, rfl⟩
                obtain ⟨qn, hqn⟩ : ∃ q : ByteArray, q = ⟨na.toArray⟩ := ⟨_, rfl⟩
                have hst : ∀ y, Below w6.heap.size w6 y → (convert 27 9 (.slice a6 l.length c6')).run Try.prog y = .ok (.string q) y := by rw [hq]; exact HSL6.out.str
                have hqS : ∀ y, Below w6.heap.size w6 y → y.cell? ⟨x6, k, none⟩ = some (.string qs) := fun y hy => by have := ((H66.out.below hy).cell k hlt).1; rw [← hsa, ← hqs] at this; exact this
                have hqN : ∀ y, Below w6.heap.size w6 y → y.cell? ⟨x6 + 1, k, none⟩ = some (.string qn) := fun y hy => by have := ((H76.out.below hy).cell k hlt).1; rw [← hna, ← hqn] at this; exact this
                have hd0 := (Below.refl w6.heap.size w6).drew
                by_cases h1 : l = sa
                · have t1 : (q.toList == qs.toList) = true := by rw [hq, hqs, Lib.toList_data, Lib.toList_data]; simpa using h1
                  have HT2 : Hid (t = 0 ∨ (t = 1 ∧ torn < ((k + 1 : Nat) : Int))) := hid (by rcases ht with h | ⟨h, h'⟩; exact .inl h; exact .inr ⟨h, by omega⟩)
                  clear h1 hq hqs hqn hcase hlt ht
                  go_wp2_with fail
                  refine wp_region_held_drew (S := (fun y => Below w6.heap.size w6 y)) (by kernel_rfl) (by assumption) (fun hH => ?_)
                  refine wpAnyH_take (i := 0) (v := _) (by simp only [List.getElem?_toArray, List.getElem?_cons_succ, List.getElem?_cons_zero]; rfl) (by kernel_rfl) (by kernel_rfl) (by kernel_rfl) (by exact fun _ _ _ h => h) (by first | exact Or.inl ⟨by rfl, by intro w hSw; go_simp; try with_reducible rfl⟩ | exact Or.inr ⟨by rfl, rfl⟩) hH ?_
                  try simp only [Act.put, List.setIfInBounds_toArray, List.set_cons_zero, List.set_cons_succ]
                  refine wpAnyH_take (i := 1) (v := _) (by simp only [List.getElem?_toArray, List.getElem?_cons_succ, List.getElem?_cons_zero]; rfl) (by kernel_rfl) (by kernel_rfl) (by kernel_rfl) (by exact fun _ _ _ h => h) (by first | exact Or.inl ⟨by rfl, by intro w hSw; go_simp; try with_reducible rfl⟩ | exact Or.inr ⟨by rfl, rfl⟩) hH ?_
                  try simp only [Act.put, List.setIfInBounds_toArray, List.set_cons_zero, List.set_cons_succ]
                  refine wpAnyH_take (i := 2) (v := _) (by simp only [List.getElem?_toArray, List.getElem?_cons_succ, List.getElem?_cons_zero]; rfl) (by kernel_rfl) (by kernel_rfl) (by kernel_rfl) (by exact fun _ _ _ h => h) (by first | exact Or.inl ⟨by rfl, by intro w hSw; go_simp; try with_reducible rfl⟩ | exact Or.inr ⟨by rfl, rfl⟩) hH ?_
                  try simp only [Act.put, List.setIfInBounds_toArray, List.set_cons_zero, List.set_cons_succ]
                  refine wpAnyH_take (i := 3) (v := _) (by simp only [List.getElem?_toArray, List.getElem?_cons_succ, List.getElem?_cons_zero]; rfl) (by kernel_rfl) (by kernel_rfl) (by kernel_rfl) (by exact fun _ _ _ h => h) (by first | exact Or.inl ⟨by rfl, by intro w hSw; go_simp; try with_reducible rfl⟩ | exact Or.inr ⟨by rfl, rfl⟩) hH ?_
                  try simp only [Act.put, List.setIfInBounds_toArray, List.set_cons_zero, List.set_cons_succ]
                  refine wpAnyH_take (i := 4) (v := _) (by simp only [List.getElem?_toArray, List.getElem?_cons_succ, List.getElem?_cons_zero]; rfl) (by kernel_rfl) (by kernel_rfl) (by kernel_rfl) (by exact fun _ _ _ h => h) (by first | exact Or.inl ⟨by rfl, by intro w hSw; go_simp; try with_reducible rfl⟩ | exact Or.inr ⟨by rfl, rfl⟩) hH ?_
                  try simp only [Act.put, List.setIfInBounds_toArray, List.set_cons_zero, List.set_cons_succ]
                  refine wpAnyH_take (i := 5) (v := _) (by simp only [List.getElem?_toArray, List.getElem?_cons_succ, List.getElem?_cons_zero]; rfl) (by kernel_rfl) (by kernel_rfl) (by kernel_rfl) (by exact fun _ _ _ h => h) (by first | exact Or.inl ⟨by rfl, by intro w hSw; go_simp; try with_reducible rfl⟩ | exact Or.inr ⟨by rfl, rfl⟩) hH ?_
                  try simp only [Act.put, List.setIfInBounds_toArray, List.set_cons_zero, List.set_cons_succ]
                  refine wpAnyH_take (i := 6) (v := _) (by simp only [List.getElem?_toArray, List.getElem?_cons_succ, List.getElem?_cons_zero]; rfl) (by kernel_rfl) (by kernel_rfl) (by kernel_rfl) (by exact fun _ _ _ h => h) (by first | exact Or.inl ⟨by rfl, by intro w hSw; go_simp; try with_reducible rfl⟩ | exact Or.inr ⟨by rfl, rfl⟩) hH ?_
                  try simp only [Act.put, List.setIfInBounds_toArray, List.set_cons_zero, List.set_cons_succ]
                  refine wpAnyH_take (i := 7) (v := _) (by simp only [List.getElem?_toArray, List.getElem?_cons_succ, List.getElem?_cons_zero]; rfl) (by kernel_rfl) (by kernel_rfl) (by kernel_rfl) (by exact fun _ _ _ h => h) (by first | exact Or.inl ⟨by rfl, by intro w hSw; go_simp; try with_reducible rfl⟩ | exact Or.inr ⟨by rfl, rfl⟩) hH ?_
                  try simp only [Act.put, List.setIfInBounds_toArray, List.set_cons_zero, List.set_cons_succ]
                  refine wpAnyH_take (i := 8) (v := _) (by simp only [List.getElem?_toArray, List.getElem?_cons_succ, List.getElem?_cons_zero]; rfl) (by kernel_rfl) (by kernel_rfl) (by kernel_rfl) (by exact fun _ _ _ h => h) (by first | exact Or.inl ⟨by rfl, by intro w hSw; go_simp; try with_reducible rfl⟩ | exact Or.inr ⟨by rfl, rfl⟩) hH ?_
                  try simp only [Act.put, List.setIfInBounds_toArray, List.set_cons_zero, List.set_cons_succ]
                  refine wpAnyH_take (i := 9) (v := _) (by simp only [List.getElem?_toArray, List.getElem?_cons_succ, List.getElem?_cons_zero]; rfl) (by kernel_rfl) (by kernel_rfl) (by kernel_rfl) (by exact fun _ _ _ h => h) (by first | exact Or.inl ⟨by rfl, by intro w hSw; go_simp; try with_reducible rfl⟩ | exact Or.inr ⟨by rfl, rfl⟩) hH ?_
                  try simp only [Act.put, List.setIfInBounds_toArray, List.set_cons_zero, List.set_cons_succ]
                  refine wpAnyH_take (i := 10) (v := _) (by simp only [List.getElem?_toArray, List.getElem?_cons_succ, List.getElem?_cons_zero]; rfl) (by kernel_rfl) (by kernel_rfl) (by kernel_rfl) (by exact fun _ _ _ h => h) (by first | exact Or.inl ⟨by rfl, by intro w hSw; go_simp; try with_reducible rfl⟩ | exact Or.inr ⟨by rfl, rfl⟩) hH ?_
                  try simp only [Act.put, List.setIfInBounds_toArray, List.set_cons_zero, List.set_cons_succ]
                  refine wpAnyH_take (i := 11) (v := _) (by simp only [List.getElem?_toArray, List.getElem?_cons_succ, List.getElem?_cons_zero]; rfl) (by kernel_rfl) (by kernel_rfl) (by kernel_rfl) (by exact fun _ _ _ h => h) (by first | exact Or.inl ⟨by rfl, by intro w hSw; go_simp; try with_reducible rfl⟩ | exact Or.inr ⟨by rfl, rfl⟩) hH ?_
                  try simp only [Act.put, List.setIfInBounds_toArray, List.set_cons_zero, List.set_cons_succ]
                  refine wpAnyH_take (i := 12) (v := _) (by simp only [List.getElem?_toArray, List.getElem?_cons_succ, List.getElem?_cons_zero]; rfl) (by kernel_rfl) (by kernel_rfl) (by kernel_rfl) (by exact fun _ _ _ h => h) (by first | exact Or.inl ⟨by rfl, by intro w hSw; go_simp; try with_reducible rfl⟩ | exact Or.inr ⟨by rfl, rfl⟩) hH ?_
                  try simp only [Act.put, List.setIfInBounds_toArray, List.set_cons_zero, List.set_cons_succ]
                  refine wpAnyH_take (i := 13) (v := _) (by simp only [List.getElem?_toArray, List.getElem?_cons_succ, List.getElem?_cons_zero]; rfl) (by kernel_rfl) (by kernel_rfl) (by kernel_rfl) (by exact fun _ _ _ h => h) (by first | exact Or.inl ⟨by rfl, by intro w hSw; go_simp; try with_reducible rfl⟩ | exact Or.inr ⟨by rfl, rfl⟩) hH ?_
                  try simp only [Act.put, List.setIfInBounds_toArray, List.set_cons_zero, List.set_cons_succ]
                  refine wpAnyH_done (by kernel_rfl) ?_ _
                  have HD7 := hid (HD6.out.below hH)
                  have H67 := hid (H66.out.below hH)
                  have H77 := hid (H76.out.below hH)
                  have HX7 := hid (HX6.out.below hH)
                  have HB7 := hid (Below.next HB6.out hH)
                  clear hst hqS hqN hd0 hH
                  go_wp2_with fail
                  go_roundw
                  case rel => exact ⟨k + 1, t, by go_num, by go_num, by omega, HT2.out, HD7.out, H67.out, H77.out, HX7.out, HB7.out⟩
                  case measure => simp [intOf]; omega
                · have t1 : (q.toList == qs.toList) = false := by rw [hq, hqs, Lib.toList_data, Lib.toList_data]; simpa using h1
                  by_cases h2 : l = na
                  · have t2 : (q.toList == qn.toList) = true := by rw [hq, hqn, Lib.toList_data, Lib.toList_data]; simpa using h2
                    have HT2 : Hid (t = 0 ∨ (t = 1 ∧ torn < ((k + 1 : Nat) : Int))) := hid (by rcases ht with h | ⟨h, h'⟩; exact .inl h; exact .inr ⟨h, by omega⟩)
                    clear h1 h2 hq hqs hqn hcase hlt ht
                    go_wp2_with fail
                    refine wp_region_held_drew (S := (fun y => Below w6.heap.size w6 y)) (by kernel_rfl) (by assumption) (fun hH => ?_)
                    refine wpAnyH_take (i := 0) (v := _) (by simp only [List.getElem?_toArray, List.getElem?_cons_succ, List.getElem?_cons_zero]; rfl) (by kernel_rfl) (by kernel_rfl) (by kernel_rfl) (by exact fun _ _ _ h => h) (by first | exact Or.inl ⟨by rfl, by intro w hSw; go_simp; try with_reducible rfl⟩ | exact Or.inr ⟨by rfl, rfl⟩) hH ?_
                    try simp only [Act.put, List.setIfInBounds_toArray, List.set_cons_zero, List.set_cons_succ]
                    refine wpAnyH_take (i := 1) (v := _) (by simp only [List.getElem?_toArray, List.getElem?_cons_succ, List.getElem?_cons_zero]; rfl) (by kernel_rfl) (by kernel_rfl) (by kernel_rfl) (by exact fun _ _ _ h => h) (by first | exact Or.inl ⟨by rfl, by intro w hSw; go_simp; try with_reducible rfl⟩ | exact Or.inr ⟨by rfl, rfl⟩) hH ?_
                    try simp only [Act.put, List.setIfInBounds_toArray, List.set_cons_zero, List.set_cons_succ]
                    refine wpAnyH_take (i := 2) (v := _) (by simp only [List.getElem?_toArray, List.getElem?_cons_succ, List.getElem?_cons_zero]; rfl) (by kernel_rfl) (by kernel_rfl) (by kernel_rfl) (by exact fun _ _ _ h => h) (by first | exact Or.inl ⟨by rfl, by intro w hSw; go_simp; try with_reducible rfl⟩ | exact Or.inr ⟨by rfl, rfl⟩) hH ?_
                    try simp only [Act.put, List.setIfInBounds_toArray, List.set_cons_zero, List.set_cons_succ]
                    refine wpAnyH_take (i := 3) (v := _) (by simp only [List.getElem?_toArray, List.getElem?_cons_succ, List.getElem?_cons_zero]; rfl) (by kernel_rfl) (by kernel_rfl) (by kernel_rfl) (by exact fun _ _ _ h => h) (by first | exact Or.inl ⟨by rfl, by intro w hSw; go_simp; try with_reducible rfl⟩ | exact Or.inr ⟨by rfl, rfl⟩) hH ?_
                    try simp only [Act.put, List.setIfInBounds_toArray, List.set_cons_zero, List.set_cons_succ]
                    refine wpAnyH_take (i := 4) (v := _) (by simp only [List.getElem?_toArray, List.getElem?_cons_succ, List.getElem?_cons_zero]; rfl) (by kernel_rfl) (by kernel_rfl) (by kernel_rfl) (by exact fun _ _ _ h => h) (by first | exact Or.inl ⟨by rfl, by intro w hSw; go_simp; try with_reducible rfl⟩ | exact Or.inr ⟨by rfl, rfl⟩) hH ?_
                    try simp only [Act.put, List.setIfInBounds_toArray, List.set_cons_zero, List.set_cons_succ]
                    refine wpAnyH_take (i := 5) (v := _) (by simp only [List.getElem?_toArray, List.getElem?_cons_succ, List.getElem?_cons_zero]; rfl) (by kernel_rfl) (by kernel_rfl) (by kernel_rfl) (by exact fun _ _ _ h => h) (by first | exact Or.inl ⟨by rfl, by intro w hSw; go_simp; try with_reducible rfl⟩ | exact Or.inr ⟨by rfl, rfl⟩) hH ?_
                    try simp only [Act.put, List.setIfInBounds_toArray, List.set_cons_zero, List.set_cons_succ]
                    refine wpAnyH_take (i := 6) (v := _) (by simp only [List.getElem?_toArray, List.getElem?_cons_succ, List.getElem?_cons_zero]; rfl) (by kernel_rfl) (by kernel_rfl) (by kernel_rfl) (by exact fun _ _ _ h => h) (by first | exact Or.inl ⟨by rfl, by intro w hSw; go_simp; try with_reducible rfl⟩ | exact Or.inr ⟨by rfl, rfl⟩) hH ?_
                    try simp only [Act.put, List.setIfInBounds_toArray, List.set_cons_zero, List.set_cons_succ]
                    refine wpAnyH_take (i := 7) (v := _) (by simp only [List.getElem?_toArray, List.getElem?_cons_succ, List.getElem?_cons_zero]; rfl) (by kernel_rfl) (by kernel_rfl) (by kernel_rfl) (by exact fun _ _ _ h => h) (by first | exact Or.inl ⟨by rfl, by intro w hSw; go_simp; try with_reducible rfl⟩ | exact Or.inr ⟨by rfl, rfl⟩) hH ?_
                    try simp only [Act.put, List.setIfInBounds_toArray, List.set_cons_zero, List.set_cons_succ]
                    refine wpAnyH_take (i := 8) (v := _) (by simp only [List.getElem?_toArray, List.getElem?_cons_succ, List.getElem?_cons_zero]; rfl) (by kernel_rfl) (by kernel_rfl) (by kernel_rfl) (by exact fun _ _ _ h => h) (by first | exact Or.inl ⟨by rfl, by intro w hSw; go_simp; try with_reducible rfl⟩ | exact Or.inr ⟨by rfl, rfl⟩) hH ?_
                    try simp only [Act.put, List.setIfInBounds_toArray, List.set_cons_zero, List.set_cons_succ]
                    refine wpAnyH_take (i := 9) (v := _) (by simp only [List.getElem?_toArray, List.getElem?_cons_succ, List.getElem?_cons_zero]; rfl) (by kernel_rfl) (by kernel_rfl) (by kernel_rfl) (by exact fun _ _ _ h => h) (by first | exact Or.inl ⟨by rfl, by intro w hSw; go_simp; try with_reducible rfl⟩ | exact Or.inr ⟨by rfl, rfl⟩) hH ?_
                    try simp only [Act.put, List.setIfInBounds_toArray, List.set_cons_zero, List.set_cons_succ]
                    refine wpAnyH_take (i := 10) (v := _) (by simp only [List.getElem?_toArray, List.getElem?_cons_succ, List.getElem?_cons_zero]; rfl) (by kernel_rfl) (by kernel_rfl) (by kernel_rfl) (by exact fun _ _ _ h => h) (by first | exact Or.inl ⟨by rfl, by intro w hSw; go_simp; try with_reducible rfl⟩ | exact Or.inr ⟨by rfl, rfl⟩) hH ?_
                    try simp only [Act.put, List.setIfInBounds_toArray, List.set_cons_zero, List.set_cons_succ]
                    refine wpAnyH_take (i := 11) (v := _) (by simp only [List.getElem?_toArray, List.getElem?_cons_succ, List.getElem?_cons_zero]; rfl) (by kernel_rfl) (by kernel_rfl) (by kernel_rfl) (by exact fun _ _ _ h => h) (by first | exact Or.inl ⟨by rfl, by intro w hSw; go_simp; try with_reducible rfl⟩ | exact Or.inr ⟨by rfl, rfl⟩) hH ?_
                    try simp only [Act.put, List.setIfInBounds_toArray, List.set_cons_zero, List.set_cons_succ]
                    refine wpAnyH_take (i := 12) (v := _) (by simp only [List.getElem?_toArray, List.getElem?_cons_succ, List.getElem?_cons_zero]; rfl) (by kernel_rfl) (by kernel_rfl) (by kernel_rfl) (by exact fun _ _ _ h => h) (by first | exact Or.inl ⟨by rfl, by intro w hSw; go_simp; try with_reducible rfl⟩ | exact Or.inr ⟨by rfl, rfl⟩) hH ?_
                    try simp only [Act.put, List.setIfInBounds_toArray, List.set_cons_zero, List.set_cons_succ]
                    refine wpAnyH_take (i := 13) (v := _) (by simp only [List.getElem?_toArray, List.getElem?_cons_succ, List.getElem?_cons_zero]; rfl) (by kernel_rfl) (by kernel_rfl) (by kernel_rfl) (by exact fun _ _ _ h => h) (by first | exact Or.inl ⟨by rfl, by intro w hSw; go_simp; try with_reducible rfl⟩ | exact Or.inr ⟨by rfl, rfl⟩) hH ?_
                    try simp only [Act.put, List.setIfInBounds_toArray, List.set_cons_zero, List.set_cons_succ]
                    refine wpAnyH_done (by kernel_rfl) ?_ _
                    have HD7 := hid (HD6.out.below hH)
                    have H67 := hid (H66.out.below hH)
                    have H77 := hid (H76.out.below hH)
                    have HX7 := hid (HX6.out.below hH)
                    have HB7 := hid (Below.next HB6.out hH)
                    clear hst hqS hqN hd0 hH
                    go_wp2_with fail
                    go_roundw
                    case rel => exact ⟨k + 1, t, by go_num, by go_num, by omega, HT2.out, HD7.out, H67.out, H77.out, HX7.out, HB7.out⟩
                    case measure => simp [intOf]; omega
                  · have t2 : (q.toList == qn.toList) = false := by rw [hq, hqn, Lib.toList_data, Lib.toList_data]; simpa using h2
                    obtain ⟨htk, hmix⟩ : (k : Int) = torn ∧ l = na.take (cutN cut 16) ++ sa.drop (cutN cut 16) := by
                      rcases hcase with h | h | h
                      · exact absurd h h1
                      · exact absurd h h2
                      · exact h
                    have ht0 : t = 0 := by
                      rcases ht with h | ⟨h, h'⟩
                      · exact h
                      · omega
                    obtain ⟨n, hn⟩ : ∃ n, n = cutN cut 16 := ⟨_, rfl⟩
                    have hn16 : n ≤ 16 := by rw [hn]; unfold cutN; omega
                    have hcutI : max (min cut 16) 0 = (n : Int) := by rw [hn]; unfold cutN; omega
                    rw [← hn] at hmix
                    have hqsz : qs.size = 16 := by rw [hqs]; have := HA16.out; simpa [ByteArray.size] using this
                    have hqnz : qn.size = 16 := by rw [hqn]; have := HB16.out; simpa [ByteArray.size] using this
                    have hmq : q.data.toList = (qn.extract 0 n ++ qs.extract n qs.size).data.toList := by
                      rw [ByteArray.data_append, Array.toList_append, Lib.extract_data, Lib.extract_data, hq, hqn, hqs]
                      show l = _
                      rw [hmix]
                      show _ = (na.drop 0).take (n - 0) ++ (sa.drop n).take ((⟨sa.toArray⟩ : ByteArray).size - n)
                      have hss : (⟨sa.toArray⟩ : ByteArray).size = sa.length := by simp [ByteArray.size]
                      rw [List.drop_zero, Nat.sub_zero, List.take_of_length_le (l := sa.drop n) (by rw [hss, List.length_drop]; omega)]
                    have n0 : (0 : Int) ≤ (n : Int) := by omega
                    have n1 : (n : Int) ≤ (qn.size : Int) := by omega
                    have n2 : (n : Int) ≤ (qs.size : Int) := by omega
                    have hs1 : (qn.extract 0 n).size + (qs.extract n qs.size).size ≤ 9223372036854775807 := by simp only [ByteArray.size_extract]; omega
                    have hs3 : (9223372036854775807 < min n qn.size + (qs.size - n)) = False := by simp only [eq_iff_iff, iff_false]; omega
                    have hs2 : min n qn.size + (qs.size - n) ≤ 9223372036854775807 := by omega
                    have t3 : (q.toList == (qn.extract 0 n ++ qs.extract n qs.size).toList) = true := by rw [Lib.toList_data, Lib.toList_data, hmq]; simp
                    have HT3 := hid t3
                    have hx6 := HX6.out
                    rw [HCL.out] at hx6
                    obtain ⟨x30, x31, x32⟩ := hx6.c3k
                    have HT0 := hid ht0
                    have t0 : (t : Int) < 2 := by omega
                    have HTK := hid htk
                    clear hx6 h1 h2 hq hqs hqn hcase hlt ht ht0 hn hmix hmq t3 hqsz hqnz htk
                    go_wp2_with fail
                    refine wp_region_held_drew (S := (fun y => Below w6.heap.size w6 y)) (by kernel_rfl) (by assumption) (fun hH => ?_)
                    refine wpAnyH_take (i := 0) (v := _) (by simp only [List.getElem?_toArray, List.getElem?_cons_succ, List.getElem?_cons_zero]; rfl) (by kernel_rfl) (by kernel_rfl) (by kernel_rfl) (by exact fun _ _ _ h => h) (by first | exact Or.inl ⟨by rfl, by intro w hSw; go_simp; try with_reducible rfl⟩ | exact Or.inr ⟨by rfl, rfl⟩) hH ?_
                    try simp only [Act.put, List.setIfInBounds_toArray, List.set_cons_zero, List.set_cons_succ]
                    refine wpAnyH_take (i := 1) (v := _) (by simp only [List.getElem?_toArray, List.getElem?_cons_succ, List.getElem?_cons_zero]; rfl) (by kernel_rfl) (by kernel_rfl) (by kernel_rfl) (by exact fun _ _ _ h => h) (by first | exact Or.inl ⟨by rfl, by intro w hSw; go_simp; try with_reducible rfl⟩ | exact Or.inr ⟨by rfl, rfl⟩) hH ?_
                    try simp only [Act.put, List.setIfInBounds_toArray, List.set_cons_zero, List.set_cons_succ]
                    refine wpAnyH_take (i := 2) (v := _) (by simp only [List.getElem?_toArray, List.getElem?_cons_succ, List.getElem?_cons_zero]; rfl) (by kernel_rfl) (by kernel_rfl) (by kernel_rfl) (by exact fun _ _ _ h => h) (by first | exact Or.inl ⟨by rfl, by intro w hSw; go_simp; try with_reducible rfl⟩ | exact Or.inr ⟨by rfl, rfl⟩) hH ?_
                    try simp only [Act.put, List.setIfInBounds_toArray, List.set_cons_zero, List.set_cons_succ]
                    refine wpAnyH_take (i := 3) (v := _) (by simp only [List.getElem?_toArray, List.getElem?_cons_succ, List.getElem?_cons_zero]; rfl) (by kernel_rfl) (by kernel_rfl) (by kernel_rfl) (by exact fun _ _ _ h => h) (by first | exact Or.inl ⟨by rfl, by intro w hSw; go_simp; try with_reducible rfl⟩ | exact Or.inr ⟨by rfl, rfl⟩) hH ?_
                    try simp only [Act.put, List.setIfInBounds_toArray, List.set_cons_zero, List.set_cons_succ]
                    refine wpAnyH_take (i := 4) (v := _) (by simp only [List.getElem?_toArray, List.getElem?_cons_succ, List.getElem?_cons_zero]; rfl) (by kernel_rfl) (by kernel_rfl) (by kernel_rfl) (by exact fun _ _ _ h => h) (by first | exact Or.inl ⟨by rfl, by intro w hSw; go_simp; try with_reducible rfl⟩ | exact Or.inr ⟨by rfl, rfl⟩) hH ?_
                    try simp only [Act.put, List.setIfInBounds_toArray, List.set_cons_zero, List.set_cons_succ]
                    refine wpAnyH_take (i := 5) (v := _) (by simp only [List.getElem?_toArray, List.getElem?_cons_succ, List.getElem?_cons_zero]; rfl) (by kernel_rfl) (by kernel_rfl) (by kernel_rfl) (by exact fun _ _ _ h => h) (by first | exact Or.inl ⟨by rfl, by intro w hSw; go_simp; try with_reducible rfl⟩ | exact Or.inr ⟨by rfl, rfl⟩) hH ?_
                    try simp only [Act.put, List.setIfInBounds_toArray, List.set_cons_zero, List.set_cons_succ]
                    refine wpAnyH_take (i := 6) (v := _) (by simp only [List.getElem?_toArray, List.getElem?_cons_succ, List.getElem?_cons_zero]; rfl) (by kernel_rfl) (by kernel_rfl) (by kernel_rfl) (by exact fun _ _ _ h => h) (by first | exact Or.inl ⟨by rfl, by intro w hSw; go_simp; try with_reducible rfl⟩ | exact Or.inr ⟨by rfl, rfl⟩) hH ?_
                    try simp only [Act.put, List.setIfInBounds_toArray, List.set_cons_zero, List.set_cons_succ]
                    refine wpAnyH_take (i := 7) (v := _) (by simp only [List.getElem?_toArray, List.getElem?_cons_succ, List.getElem?_cons_zero]; rfl) (by kernel_rfl) (by kernel_rfl) (by kernel_rfl) (by exact fun _ _ _ h => h) (by first | exact Or.inl ⟨by rfl, by intro w hSw; go_simp; try with_reducible rfl⟩ | exact Or.inr ⟨by rfl, rfl⟩) hH ?_
                    try simp only [Act.put, List.setIfInBounds_toArray, List.set_cons_zero, List.set_cons_succ]
                    refine wpAnyH_take (i := 8) (v := _) (by simp only [List.getElem?_toArray, List.getElem?_cons_succ, List.getElem?_cons_zero]; rfl) (by kernel_rfl) (by kernel_rfl) (by kernel_rfl) (by exact fun _ _ _ h => h) (by first | exact Or.inl ⟨by rfl, by intro w hSw; go_simp; try with_reducible rfl⟩ | exact Or.inr ⟨by rfl, rfl⟩) hH ?_
                    try simp only [Act.put, List.setIfInBounds_toArray, List.set_cons_zero, List.set_cons_succ]
                    refine wpAnyH_take (i := 9) (v := _) (by simp only [List.getElem?_toArray, List.getElem?_cons_succ, List.getElem?_cons_zero]; rfl) (by kernel_rfl) (by kernel_rfl) (by kernel_rfl) (by exact fun _ _ _ h => h) (by first | exact Or.inl ⟨by rfl, by intro w hSw; go_simp; try with_reducible rfl⟩ | exact Or.inr ⟨by rfl, rfl⟩) hH ?_
                    try simp only [Act.put, List.setIfInBounds_toArray, List.set_cons_zero, List.set_cons_succ]
                    refine wpAnyH_take (i := 10) (v := _) (by simp only [List.getElem?_toArray, List.getElem?_cons_succ, List.getElem?_cons_zero]; rfl) (by kernel_rfl) (by kernel_rfl) (by kernel_rfl) (by exact fun _ _ _ h => h) (by first | exact Or.inl ⟨by rfl, by intro w hSw; go_simp; try with_reducible rfl⟩ | exact Or.inr ⟨by rfl, rfl⟩) hH ?_
                    try simp only [Act.put, List.setIfInBounds_toArray, List.set_cons_zero, List.set_cons_succ]
                    refine wpAnyH_take (i := 11) (v := _) (by simp only [List.getElem?_toArray, List.getElem?_cons_succ, List.getElem?_cons_zero]; rfl) (by kernel_rfl) (by kernel_rfl) (by kernel_rfl) (by exact fun _ _ _ h => h) (by first | exact Or.inl ⟨by rfl, by intro w hSw; go_simp; try with_reducible rfl⟩ | exact Or.inr ⟨by rfl, rfl⟩) hH ?_
                    try simp only [Act.put, List.setIfInBounds_toArray, List.set_cons_zero, List.set_cons_succ]
                    refine wpAnyH_take (i := 12) (v := _) (by simp only [List.getElem?_toArray, List.getElem?_cons_succ, List.getElem?_cons_zero]; rfl) (by kernel_rfl) (by kernel_rfl) (by kernel_rfl) (by exact fun _ _ _ h => h) (by first | exact Or.inl ⟨by rfl, by intro w hSw; go_simp; try with_reducible rfl⟩ | exact Or.inr ⟨by rfl, rfl⟩) hH ?_
                    try simp only [Act.put, List.setIfInBounds_toArray, List.set_cons_zero, List.set_cons_succ]
                    refine wpAnyH_take (i := 13) (v := _) (by simp only [List.getElem?_toArray, List.getElem?_cons_succ, List.getElem?_cons_zero]; rfl) (by kernel_rfl) (by kernel_rfl) (by kernel_rfl) (by exact fun _ _ _ h => h) (by first | exact Or.inl ⟨by rfl, by intro w hSw; go_simp; try with_reducible rfl⟩ | exact Or.inr ⟨by rfl, rfl⟩) hH ?_
                    try simp only [Act.put, List.setIfInBounds_toArray, List.set_cons_zero, List.set_cons_succ]
                    refine wpAnyH_done (by kernel_rfl) ?_ _
                    have HD7 := hid (HD6.out.below hH)
                    have H67 := hid (H66.out.below hH)
                    have H77 := hid (H76.out.below hH)
                    have HX7 := hid (HX6.out.below hH)
                    have HB7 := hid (Below.next HB6.out hH)
                    obtain ⟨v30, v31, v32⟩ := (show Blk _ w.heap.size #[Value.slice ka keep.length kc, .int .i64 torn, .int .i64 cut] from by rw [← HCL.out]; exact HX7.out).c3k
                    clear x30 x31 x32
                    have hqT : ∀ y, Below w6.heap.size w6 y → y.cell? ⟨w.heap.size, 1, none⟩ = some (.int .i64 torn) := fun y hy => (show Blk y w.heap.size #[Value.slice ka keep.length kc, .int .i64 torn, .int .i64 cut] from by rw [← HCL.out]; exact HX6.out.below hy).c3k.2.1
                    have tk : ((k : Int) != torn) = false := by rw [HTK.out]; simp
                    have t3 := HT3.out
                    have hd1 := hH.drew
                    have HT2 : Hid (t + 1 = 0 ∨ (t + 1 = 1 ∧ torn < ((k + 1 : Nat) : Int))) := hid (.inr ⟨by rw [HT0.out], by rw [← HTK.out]; omega⟩)
                    clear hH hd0
                    go_wp2_with fail
                    refine wp_region_held_drew (S := (fun y => Below w6.heap.size w6 y)) (by kernel_rfl) (by assumption) (fun hH => ?_)
                    refine wpAnyH_take (i := 0) (v := _) (by simp only [List.getElem?_toArray, List.getElem?_cons_succ, List.getElem?_cons_zero]; rfl) (by kernel_rfl) (by kernel_rfl) (by kernel_rfl) (by exact fun _ _ _ h => h) (by first | exact Or.inl ⟨by rfl, by intro w hSw; go_simp; try with_reducible rfl⟩ | exact Or.inr ⟨by rfl, rfl⟩) hH ?_
                    try simp only [Act.put, List.setIfInBounds_toArray, List.set_cons_zero, List.set_cons_succ]
                    refine wpAnyH_take (i := 1) (v := _) (by simp only [List.getElem?_toArray, List.getElem?_cons_succ, List.getElem?_cons_zero]; rfl) (by kernel_rfl) (by kernel_rfl) (by kernel_rfl) (by exact fun _ _ _ h => h) (by first | exact Or.inl ⟨by rfl, by intro w hSw; go_simp; try with_reducible rfl⟩ | exact Or.inr ⟨by rfl, rfl⟩) hH ?_
                    try simp only [Act.put, List.setIfInBounds_toArray, List.set_cons_zero, List.set_cons_succ]
                    refine wpAnyH_take (i := 2) (v := _) (by simp only [List.getElem?_toArray, List.getElem?_cons_succ, List.getElem?_cons_zero]; rfl) (by kernel_rfl) (by kernel_rfl) (by kernel_rfl) (by exact fun _ _ _ h => h) (by first | exact Or.inl ⟨by rfl, by intro w hSw; go_simp; try with_reducible rfl⟩ | exact Or.inr ⟨by rfl, rfl⟩) hH ?_
                    try simp only [Act.put, List.setIfInBounds_toArray, List.set_cons_zero, List.set_cons_succ]
                    refine wpAnyH_take (i := 3) (v := _) (by simp only [List.getElem?_toArray, List.getElem?_cons_succ, List.getElem?_cons_zero]; rfl) (by kernel_rfl) (by kernel_rfl) (by kernel_rfl) (by exact fun _ _ _ h => h) (by first | exact Or.inl ⟨by rfl, by intro w hSw; go_simp; try with_reducible rfl⟩ | exact Or.inr ⟨by rfl, rfl⟩) hH ?_
                    try simp only [Act.put, List.setIfInBounds_toArray, List.set_cons_zero, List.set_cons_succ]
                    refine wpAnyH_take (i := 4) (v := _) (by simp only [List.getElem?_toArray, List.getElem?_cons_succ, List.getElem?_cons_zero]; rfl) (by kernel_rfl) (by kernel_rfl) (by kernel_rfl) (by exact fun _ _ _ h => h) (by first | exact Or.inl ⟨by rfl, by intro w hSw; go_simp; try with_reducible rfl⟩ | exact Or.inr ⟨by rfl, rfl⟩) hH ?_
                    try simp only [Act.put, List.setIfInBounds_toArray, List.set_cons_zero, List.set_cons_succ]
                    refine wpAnyH_take (i := 5) (v := _) (by simp only [List.getElem?_toArray, List.getElem?_cons_succ, List.getElem?_cons_zero]; rfl) (by kernel_rfl) (by kernel_rfl) (by kernel_rfl) (by exact fun _ _ _ h => h) (by first | exact Or.inl ⟨by rfl, by intro w hSw; go_simp; try with_reducible rfl⟩ | exact Or.inr ⟨by rfl, rfl⟩) hH ?_
                    try simp only [Act.put, List.setIfInBounds_toArray, List.set_cons_zero, List.set_cons_succ]
                    refine wpAnyH_take (i := 6) (v := _) (by simp only [List.getElem?_toArray, List.getElem?_cons_succ, List.getElem?_cons_zero]; rfl) (by kernel_rfl) (by kernel_rfl) (by kernel_rfl) (by exact fun _ _ _ h => h) (by first | exact Or.inl ⟨by rfl, by intro w hSw; go_simp; try with_reducible rfl⟩ | exact Or.inr ⟨by rfl, rfl⟩) hH ?_
                    try simp only [Act.put, List.setIfInBounds_toArray, List.set_cons_zero, List.set_cons_succ]
                    refine wpAnyH_take (i := 7) (v := _) (by simp only [List.getElem?_toArray, List.getElem?_cons_succ, List.getElem?_cons_zero]; rfl) (by kernel_rfl) (by kernel_rfl) (by kernel_rfl) (by exact fun _ _ _ h => h) (by first | exact Or.inl ⟨by rfl, by intro w hSw; go_simp; try with_reducible rfl⟩ | exact Or.inr ⟨by rfl, rfl⟩) hH ?_
                    try simp only [Act.put, List.setIfInBounds_toArray, List.set_cons_zero, List.set_cons_succ]
                    refine wpAnyH_take (i := 8) (v := _) (by simp only [List.getElem?_toArray, List.getElem?_cons_succ, List.getElem?_cons_zero]; rfl) (by kernel_rfl) (by kernel_rfl) (by kernel_rfl) (by exact fun _ _ _ h => h) (by first | exact Or.inl ⟨by rfl, by intro w hSw; go_simp; try with_reducible rfl⟩ | exact Or.inr ⟨by rfl, rfl⟩) hH ?_
                    try simp only [Act.put, List.setIfInBounds_toArray, List.set_cons_zero, List.set_cons_succ]
                    refine wpAnyH_take (i := 9) (v := _) (by simp only [List.getElem?_toArray, List.getElem?_cons_succ, List.getElem?_cons_zero]; rfl) (by kernel_rfl) (by kernel_rfl) (by kernel_rfl) (by exact fun _ _ _ h => h) (by first | exact Or.inl ⟨by rfl, by intro w hSw; go_simp; try with_reducible rfl⟩ | exact Or.inr ⟨by rfl, rfl⟩) hH ?_
                    try simp only [Act.put, List.setIfInBounds_toArray, List.set_cons_zero, List.set_cons_succ]
                    refine wpAnyH_take (i := 10) (v := _) (by simp only [List.getElem?_toArray, List.getElem?_cons_succ, List.getElem?_cons_zero]; rfl) (by kernel_rfl) (by kernel_rfl) (by kernel_rfl) (by exact fun _ _ _ h => h) (by first | exact Or.inl ⟨by rfl, by intro w hSw; go_simp; try with_reducible rfl⟩ | exact Or.inr ⟨by rfl, rfl⟩) hH ?_
                    try simp only [Act.put, List.setIfInBounds_toArray, List.set_cons_zero, List.set_cons_succ]
                    refine wpAnyH_take (i := 11) (v := _) (by simp only [List.getElem?_toArray, List.getElem?_cons_succ, List.getElem?_cons_zero]; rfl) (by kernel_rfl) (by kernel_rfl) (by kernel_rfl) (by exact fun _ _ _ h => h) (by first | exact Or.inl ⟨by rfl, by intro w hSw; go_simp; try with_reducible rfl⟩ | exact Or.inr ⟨by rfl, rfl⟩) hH ?_
                    try simp only [Act.put, List.setIfInBounds_toArray, List.set_cons_zero, List.set_cons_succ]
                    refine wpAnyH_take (i := 12) (v := _) (by simp only [List.getElem?_toArray, List.getElem?_cons_succ, List.getElem?_cons_zero]; rfl) (by kernel_rfl) (by kernel_rfl) (by kernel_rfl) (by exact fun _ _ _ h => h) (by first | exact Or.inl ⟨by rfl, by intro w hSw; go_simp; try with_reducible rfl⟩ | exact Or.inr ⟨by rfl, rfl⟩) hH ?_
                    try simp only [Act.put, List.setIfInBounds_toArray, List.set_cons_zero, List.set_cons_succ]
                    refine wpAnyH_take (i := 13) (v := _) (by simp only [List.getElem?_toArray, List.getElem?_cons_succ, List.getElem?_cons_zero]; rfl) (by kernel_rfl) (by kernel_rfl) (by kernel_rfl) (by exact fun _ _ _ h => h) (by first | exact Or.inl ⟨by rfl, by intro w hSw; go_simp; try with_reducible rfl⟩ | exact Or.inr ⟨by rfl, rfl⟩) hH ?_
                    try simp only [Act.put, List.setIfInBounds_toArray, List.set_cons_zero, List.set_cons_succ]
                    refine wpAnyH_take (i := 14) (v := _) (by simp only [List.getElem?_toArray, List.getElem?_cons_succ, List.getElem?_cons_zero]; rfl) (by kernel_rfl) (by kernel_rfl) (by kernel_rfl) (by exact fun _ _ _ h => h) (by first | exact Or.inl ⟨by rfl, by intro w hSw; go_simp; try with_reducible rfl⟩ | exact Or.inr ⟨by rfl, rfl⟩) hH ?_
                    try simp only [Act.put, List.setIfInBounds_toArray, List.set_cons_zero, List.set_cons_succ]
                    refine wpAnyH_take (i := 15) (v := _) (by simp only [List.getElem?_toArray, List.getElem?_cons_succ, List.getElem?_cons_zero]; rfl) (by kernel_rfl) (by kernel_rfl) (by kernel_rfl) (by exact fun _ _ _ h => h) (by first | exact Or.inl ⟨by rfl, by intro w hSw; go_simp; try with_reducible rfl⟩ | exact Or.inr ⟨by rfl, rfl⟩) hH ?_
                    try simp only [Act.put, List.setIfInBounds_toArray, List.set_cons_zero, List.set_cons_succ]
                    refine wpAnyH_take (i := 16) (v := _) (by simp only [List.getElem?_toArray, List.getElem?_cons_succ, List.getElem?_cons_zero]; rfl) (by kernel_rfl) (by kernel_rfl) (by kernel_rfl) (by exact fun _ _ _ h => h) (by first | exact Or.inl ⟨by rfl, by intro w hSw; go_simp; try with_reducible rfl⟩ | exact Or.inr ⟨by rfl, rfl⟩) hH ?_
                    try simp only [Act.put, List.setIfInBounds_toArray, List.set_cons_zero, List.set_cons_succ]
                    refine wpAnyH_take (i := 17) (v := _) (by simp only [List.getElem?_toArray, List.getElem?_cons_succ, List.getElem?_cons_zero]; rfl) (by kernel_rfl) (by kernel_rfl) (by kernel_rfl) (by exact fun _ _ _ h => h) (by first | exact Or.inl ⟨by rfl, by intro w hSw; go_simp; try with_reducible rfl⟩ | exact Or.inr ⟨by rfl, rfl⟩) hH ?_
                    try simp only [Act.put, List.setIfInBounds_toArray, List.set_cons_zero, List.set_cons_succ]
                    refine wpAnyH_take (i := 18) (v := _) (by simp only [List.getElem?_toArray, List.getElem?_cons_succ, List.getElem?_cons_zero]; rfl) (by kernel_rfl) (by kernel_rfl) (by kernel_rfl) (by exact fun _ _ _ h => h) (by first | exact Or.inl ⟨by rfl, by intro w hSw; go_simp; try with_reducible rfl⟩ | exact Or.inr ⟨by rfl, rfl⟩) hH ?_
                    try simp only [Act.put, List.setIfInBounds_toArray, List.set_cons_zero, List.set_cons_succ]
                    refine wpAnyH_take (i := 19) (v := _) (by simp only [List.getElem?_toArray, List.getElem?_cons_succ, List.getElem?_cons_zero]; rfl) (by kernel_rfl) (by kernel_rfl) (by kernel_rfl) (by exact fun _ _ _ h => h) (by first | exact Or.inl ⟨by rfl, by intro w hSw; go_simp; try with_reducible rfl⟩ | exact Or.inr ⟨by rfl, rfl⟩) hH ?_
                    try simp only [Act.put, List.setIfInBounds_toArray, List.set_cons_zero, List.set_cons_succ]
                    refine wpAnyH_done (by kernel_rfl) ?_ _
                    have HD8 := hid (HD6.out.below hH)
                    have H68 := hid (H66.out.below hH)
                    have H78 := hid (H76.out.below hH)
                    have HX8 := hid (HX6.out.below hH)
                    have HB8 := hid (Below.next HB6.out hH)
                    clear hst hqS hqN hqT hd1 hH
                    go_wp2_with fail
                    go_roundw
                    case rel => exact ⟨k + 1, t + 1, by go_num, by go_num, by omega, HT2.out, HD8.out, H68.out, H78.out, HX8.out, HB8.out⟩
                    case measure => simp [intOf]; omega
              · have hk6i : ¬ (k : Int) < 6 := by omega
                have tle : (t : Int) ≤ 1 := by omega
                have hok7 : sc.Ok := by rw [HSC.out]; exact HKR.out.ok.crash keep torn cut
                have hkl : keysL sc.C = [] := by rw [HSC.out]; simp [dkCrash, dkArm, keysL]
                have hdn : sc.down = false := by rw [HSC.out]; rfl
                have hcl0 : sc.C.length ≤ 1000 := by rw [HSC.out]; simp [dkCrash, dkArm]
                have HCA := hid (disk_Cached sc hok7 hcl0 g W R5 wr HD.out)
                have HKL := hid hkl
                have HDN := hid hdn
                clear hok7 hkl hdn hcl0 hx hb hlt ht hk
                go_wp2_with fail
                refine HCA.out.mono ?_
                rintro e w7 ⟨v7, rfl, hown7, hb7⟩
                rw [HKL.out] at hown7
                obtain ⟨a7, c7, rfl, -⟩ := SlI.of_own (l := []) hown7
                have HD7 := hid (HD.out.below hb7)
                have HB7 := hid (Below.next HB.out hb7)
                clear hown7 hb7
                go_wp2_with fail
                refine (disk_Down sc g W R5 w7 HD7.out).mono ?_
                rintro e w7' ⟨rfl, rfl⟩
                rw [HDN.out]
                go_wp2_with fail
                refine (law05_awake w7).mono ?_
                rintro e w8 ⟨rfl, hb8⟩
                have HB8 := hid (Below.next HB7.out hb8)
                clear hb8
                go_wp2_with fail
                go_ret
                exact ⟨rfl, HB8.out⟩
end Go.Proofs.Ytohknblokejldaa
end
