/- Contracts of the statements' own functions of layer 4: put. -/
import Derived.Test.YtdchopckbklncaaVarThing
namespace Go.Proofs.Ytdchopckbklncaa
open Go.RowKit
open Go.Lib (hid)
set_option linter.unusedVariables false

/-- a thing as a value -/
def thV (x : Thing) (la : Option Addr) (lc : Nat) : Array Value := #[.int .i64 x.kind, .int .i64 x.n, .string ⟨x.text.toArray⟩, .bool x.flag, .slice la x.list.length lc]
theorem OutStep.refl (g : Nat) (v : Value) (w w' : World) (h : Below w.heap.size w w') : OutStep g v v w w' := ⟨Upd.of_below h, fun k hk => .inl hk⟩
theorem OutStep.before {g : Nat} {v v' : Value} {w w1 w2 : World} (h : Below w.heap.size w w1) (k : OutStep g v v' w1 w2) : OutStep g v v' w w2 :=
  ⟨(Upd.of_below h).trans k.upd (fun _ _ x => x), fun j hj => by rcases k.wh j hj with q | q; exact .inl q; exact .inr (by have := h.size; omega)⟩
theorem OutStep.after {g : Nat} {v v' : Value} {w w1 w2 : World} (k : OutStep g v v' w w1) (h : Below w1.heap.size w1 w2) : OutStep g v v' w w2 :=
  ⟨k.upd.trans (Upd.of_below (S := fun _ => False) h) (fun _ _ x => x.elim), k.wh⟩
theorem below_new (w : World) (o : Obj) : Below w.heap.size w (w.alloc o) := (Below.refl _ _).alloc (Nat.le_refl _) o
theorem below_then {w w1 w2 : World} (h : Below w.heap.size w w1) (k : Below w1.heap.size w1 w2) : Below w.heap.size w w2 := h.trans (k.mono h.size)
theorem ownsRow_ge {w : World} {base base' : Nat} {e : TypeId} {v : Value} {n : Nat} {xs : List Value} {size : Nat} (h : w.ownsRow base' e size v n xs) (hb : base ≤ base') : w.ownsRow base e size v n xs := ownsRow_base h hb

/-- behind a put -/
def PutPost (x : Thing) (g : Nat) (v : Value) (l : List UInt8) (w : World) (e : Ending) (w' : World) : Prop :=
  ∃ vr v', e = .returned vr ∧ w'.ownsRow w.heap.size 5 1 vr x.enc.length (bv x.enc) ∧ OutIs w' g v' (l ++ x.enc) ∧ OutStep g v v' w w'

set_option maxRecDepth 100000 in
set_option maxHeartbeats 2000000 in
theorem law04_put (x : Thing) (hx : x.Ok) (la : Option Addr) (lc : Nat) (g : Nat) (v : Value) (l : List UInt8) (w : World) (h : OutIs w g v l) (hl : l.length ≤ 800000) (hr : Rd w la (iv x.list))
    (hub : Hid (0 < x.list.length → ∀ b off, la = some ⟨b, off, none⟩ → b ≠ g ∧ v.ownBlock ≠ some b)) :
    Calls Try.prog 41 #[.pointer (some ⟨g, 0, none⟩), .agg (thV x la lc)] w (PutPost x g v l w) := by
  obtain ⟨kind, n, text, flag, list⟩ := x
  have hn1 := hx.n1
  have hn2 := hx.n2
  have htx := hx.text
  have hli := hx.list
  have HBD := hid hx.bd
  simp only at hn1 hn2 htx hli hub
  unfold thV
  simp only
  have H := hid h
  have HR := hid hr
  have HBX := hid (Blk.new w #[.int .i64 kind, .int .i64 n, .string ⟨text.toArray⟩, .bool flag, .slice la list.length lc] 56)
  have HB0 := hid (below_new w (.cells #[.int .i64 kind, .int .i64 n, .string ⟨text.toArray⟩, .bool flag, .slice la list.length lc] 56))
  clear hx h hr
  by_cases k0 : kind = 0
  · subst k0
    go_enter Try.func41, Try.ntmps41
    go_wp2_with fail
    refine (var_Out_Int n hn1 hn2 g v l _ (H.out.below HB0.out) (by omega)).mono ?_
    rintro e w1 ⟨v1, rfl, ho, hst, -⟩
    have hbx := HBX.out.upd hst.upd (fun s => by rcases s with s | s; have := H.out.blk.lt; omega; have := ownBlock_lt H.out.own s; omega)
    have hc1 : w1.cell? ⟨w.heap.size, 1, none⟩ = some (.int .i64 n) := by rw [hbx.cell]; rfl
    have HO := hid ho
    have HST := hid (OutStep.before HB0.out hst)
    clear ho hst hbx
    go_wp2_with fail
    refine (ref_Int n hn1 hn2 w1).mono ?_
    rintro e w2 ⟨vr, rfl, hown, hb⟩
    have HPOST : Hid (PutPost ⟨0, n, text, flag, list⟩ g v l w (.returned vr) w2) := hid ⟨vr, v1, rfl, ownsRow_ge hown HST.out.upd.size, HO.out.below hb, HST.out.after hb⟩
    clear hown hb
    go_wp2_with fail
    go_ret
    exact HPOST.out
  have b0 : (kind == 0) = false := by simpa using k0
  by_cases k1 : kind = 1
  · subst k1
    obtain ⟨all, hall⟩ : ∃ all, all = enc (zz (text.length : Int)) ++ text := ⟨_, rfl⟩
    have HALL := hid hall
    have HA2 : Hid (l ++ all = l ++ enc (zz (text.length : Int)) ++ text) := hid (by rw [hall, List.append_assoc])
    clear hall
    go_enter Try.func41, Try.ntmps41
    go_wp2_with fail
    refine (out_Text text (by omega) g v l _ (H.out.below HB0.out) (by omega) (l ++ all) HA2).mono ?_
    rintro e w1 ⟨v1, rfl, ho, hst⟩
    have hbx := HBX.out.upd hst.upd (fun s => by rcases s with s | s; have := H.out.blk.lt; omega; have := ownBlock_lt H.out.own s; omega)
    have hc1 : w1.cell? ⟨w.heap.size, 2, none⟩ = some (.string ⟨text.toArray⟩) := by rw [hbx.cell]; rfl
    have HO := hid ho
    have HST := hid (OutStep.before HB0.out hst)
    clear ho hst hbx
    go_wp2_with (with_reducible refine wpList_strB _ rfl (.tmp 23) rfl text (by omega) rfl ?_)
    intro c w2 hs hb2 hz2
    have HS := hid hs
    have HB2 := hid hb2
    clear hs hb2 hz2
    go_wp2_with fail
    refine (ref_Bytes text _ w2 HS.out (by omega) all HALL).mono ?_
    rintro e w3 ⟨vr, rfl, hown, hb⟩
    have HPOST : Hid (PutPost ⟨1, n, text, flag, list⟩ g v l w (.returned vr) w3) := hid ⟨vr, v1, rfl, by
      have e1 : (Thing.enc ⟨1, n, text, flag, list⟩) = all := HALL.out.symm
      rw [e1]; exact ownsRow_ge hown (by have := HST.out.upd.size; have := HB2.out.size; omega), by
      have e1 : (Thing.enc ⟨1, n, text, flag, list⟩) = all := HALL.out.symm
      rw [e1]; exact HO.out.below (below_then HB2.out hb), HST.out.after (below_then HB2.out hb)⟩
    clear hown hb
    go_wp2_with fail
    go_ret
    exact HPOST.out
  have b1 : (kind == 1) = false := by simpa using k1
  by_cases k2 : kind = 2
  · subst k2
    have key : ∀ fl : Bool, flag = fl → Calls Try.prog 41 #[.pointer (some ⟨g, 0, none⟩), .agg #[.int .i64 2, .int .i64 n, .string ⟨text.toArray⟩, .bool fl, .slice la list.length lc]] w (PutPost ⟨2, n, text, fl, list⟩ g v l w) := by
      intro fl hfl
      subst hfl
      cases flag
      case false =>
        go_enter Try.func41, Try.ntmps41
        go_wp2_with fail
        refine (out_Bool false g v l _ (H.out.below HB0.out) (by omega)).mono ?_
        rintro e w1 ⟨v1, rfl, ho, hst⟩
        have hbx := HBX.out.upd hst.upd (fun s => by rcases s with s | s; have := H.out.blk.lt; omega; have := ownBlock_lt H.out.own s; omega)
        have hc1 : w1.cell? ⟨w.heap.size, 3, none⟩ = some (.bool false) := by rw [hbx.cell]; rfl
        have HPOST : Hid (∀ w2, w2 = w1.alloc (.cells #[.int .u8 0] 5) → PutPost ⟨2, n, text, false, list⟩ g v l w (.returned (.slice (some ⟨w1.heap.size, 0, none⟩) 1 1)) w2) := hid (fun w2 e2 => by
          subst e2
          have hs := (OutStep.before HB0.out hst)
          exact ⟨_, v1, rfl, ⟨rfl, .inr ⟨w1.heap.size, 1, #[.int .u8 0], rfl, hs.upd.size, heap_alloc_new w1 _, by simp [Thing.enc], by unfold maxLen; omega, rfl, rfl⟩⟩, ho.below (below_new _ _), hs.after (below_new _ _)⟩)
        clear ho hst hbx
        go_wp2_with fail
        go_ret
        exact HPOST.out _ rfl
      case true =>
        go_enter Try.func41, Try.ntmps41
        go_wp2_with fail
        refine (out_Bool true g v l _ (H.out.below HB0.out) (by omega)).mono ?_
        rintro e w1 ⟨v1, rfl, ho, hst⟩
        have hbx := HBX.out.upd hst.upd (fun s => by rcases s with s | s; have := H.out.blk.lt; omega; have := ownBlock_lt H.out.own s; omega)
        have hc1 : w1.cell? ⟨w.heap.size, 3, none⟩ = some (.bool true) := by rw [hbx.cell]; rfl
        have HPOST : Hid (∀ w2, w2 = w1.alloc (.cells #[.int .u8 1] 5) → PutPost ⟨2, n, text, true, list⟩ g v l w (.returned (.slice (some ⟨w1.heap.size, 0, none⟩) 1 1)) w2) := hid (fun w2 e2 => by
          subst e2
          have hs := (OutStep.before HB0.out hst)
          exact ⟨_, v1, rfl, ⟨rfl, .inr ⟨w1.heap.size, 1, #[.int .u8 1], rfl, hs.upd.size, heap_alloc_new w1 _, by simp [Thing.enc], by unfold maxLen; omega, rfl, rfl⟩⟩, ho.below (below_new _ _), hs.after (below_new _ _)⟩)
        clear ho hst hbx
        go_wp2_with fail
        go_ret
        exact HPOST.out _ rfl
    exact key flag rfl
  have b2 : (kind == 2) = false := by simpa using k2
  by_cases k3 : kind = 3
  · subst k3
    obtain ⟨all, hall⟩ : ∃ all, all = enc (zz (list.length : Int)) ++ encs list := ⟨_, rfl⟩
    have HALL := hid hall
    have HA2 : Hid (l ++ all = l ++ enc (zz (list.length : Int)) ++ encs list) := hid (by rw [hall, List.append_assoc])
    clear hall
    go_enter Try.func41, Try.ntmps41
    go_wp2_with fail
    refine (out_Ints list HBD la _ lc rfl (by omega) g v l _ (H.out.below HB0.out) (by omega) (HR.out.below' HB0.out) hub (l ++ all) HA2).mono ?_
    rintro e w1 ⟨v1, rfl, ho, hst⟩
    have hbx := HBX.out.upd hst.upd (fun s => by rcases s with s | s; have := H.out.blk.lt; omega; have := ownBlock_lt H.out.own s; omega)
    have hc1 : w1.cell? ⟨w.heap.size, 4, none⟩ = some (.slice la list.length lc) := by rw [hbx.cell]; rfl
    have hr1 : Rd w1 la (iv list) := by
      cases list with
      | nil => exact Rd.nil _ _
      | cons y ys => exact hst.upd.rd (HR.out.below' HB0.out) (fun b off e s => by
          obtain ⟨q1, q2⟩ := hub.out (by simp) b off e
          rcases s with s | s
          · exact q1 s
          · exact q2 s)
    have HR1 := hid hr1
    have HO := hid ho
    have HST := hid (OutStep.before HB0.out hst)
    clear ho hst hbx hr1
    go_wp2_with fail
    refine (ref_Ints list HBD la _ lc rfl (by omega) w1 HR1.out all HALL).mono ?_
    rintro e w3 ⟨vr, rfl, hown, hb⟩
    have HPOST : Hid (PutPost ⟨3, n, text, flag, list⟩ g v l w (.returned vr) w3) := hid ⟨vr, v1, rfl, by
      have e1 : (Thing.enc ⟨3, n, text, flag, list⟩) = all := HALL.out.symm
      rw [e1]; exact ownsRow_ge hown HST.out.upd.size, by
      have e1 : (Thing.enc ⟨3, n, text, flag, list⟩) = all := HALL.out.symm
      rw [e1]; exact HO.out.below hb, HST.out.after hb⟩
    clear hown hb
    go_wp2_with fail
    go_ret
    exact HPOST.out
  have b3 : (kind == 3) = false := by simpa using k3
  have HPOST : Hid (PutPost ⟨kind, n, text, flag, list⟩ g v l w (.returned (.slice none 0 0)) (w.alloc (.cells #[.int .i64 kind, .int .i64 n, .string ⟨text.toArray⟩, .bool flag, .slice la list.length lc] 56))) := hid (by
    have e1 : (Thing.enc ⟨kind, n, text, flag, list⟩) = [] := by simp [Thing.enc, k0, k1, k2, k3]
    refine ⟨.slice none 0 0, v, rfl, ?_, ?_, OutStep.refl _ _ _ _ HB0.out⟩
    · rw [e1]; exact World.ownsRow_nil _ _ _ _
    · rw [e1, List.append_nil]; exact H.out.below HB0.out)
  clear k0 k1 k2 k3
  go_enter Try.func41, Try.ntmps41
  go_wp2_with fail
  go_ret
  exact HPOST.out
end Go.Proofs.Ytdchopckbklncaa
