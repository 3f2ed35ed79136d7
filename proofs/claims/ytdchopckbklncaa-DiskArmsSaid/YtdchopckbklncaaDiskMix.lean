/- Plain and state: a disk's sectors while its cache is gone through. -/
import Derived.Test.YtdchopckbklncaaDiskIo
namespace Go.Proofs.Ytdchopckbklncaa
open Go.RowKit
open Go.Lib (hid)
set_option linter.unusedVariables false

/-- the sectors of which those of the cache that are no more left have been treated by f -/
def mixF (f : Int → List UInt8 → List UInt8 → List UInt8) (D : List (List UInt8)) (C : List (Int × List UInt8)) (left : List Int) : List (List UInt8) :=
  D.mapIdx fun i d => if (i : Int) ∈ left then d else match C.lookup (i : Int) with
    | none => d
    | some b => f i b d
theorem mixF_len (f : Int → List UInt8 → List UInt8 → List UInt8) (D : List (List UInt8)) (C : List (Int × List UInt8)) (left : List Int) : (mixF f D C left).length = D.length := by simp [mixF]
theorem mixF_at (f : Int → List UInt8 → List UInt8 → List UInt8) (D : List (List UInt8)) (C : List (Int × List UInt8)) (left : List Int) (i : Nat) : (mixF f D C left)[i]? = (D[i]?).map fun d => if (i : Int) ∈ left then d else match C.lookup (i : Int) with
    | none => d
    | some b => f i b d := by simp [mixF, List.getElem?_mapIdx]
theorem mixF_all (f : Int → List UInt8 → List UInt8 → List UInt8) (D : List (List UInt8)) (C : List (Int × List UInt8)) (left : List Int) (h : ∀ p ∈ C, p.1 ∈ left) : mixF f D C left = D := by
  apply List.ext_getElem?
  intro i
  rw [mixF_at]
  cases hd : D[i]? with
  | none => rfl
  | some d =>
    rw [Option.map_some]
    by_cases hi : (i : Int) ∈ left
    · rw [if_pos hi]
    · rw [if_neg hi]
      cases hc : C.lookup (i : Int) with
      | none => rfl
      | some b => exact absurd (h _ (lookup_mem hc)) hi
theorem mixF_step (f : Int → List UInt8 → List UInt8 → List UInt8) (D : List (List UInt8)) (C : List (Int × List UInt8)) (left left' : List Int) (k : Nat) (l d : List UInt8) (hd : D[k]? = some d) (hl : C.lookup (k : Int) = some l) (hk : (k : Int) ∈ left) (h' : ∀ j : Int, j ∈ left' ↔ j ∈ left ∧ j ≠ (k : Int)) :
    (mixF f D C left)[k]? = some d ∧ mixF f D C left' = (mixF f D C left).set k (f (k : Int) l d) := by
  refine ⟨by rw [mixF_at, hd, Option.map_some, if_pos hk], ?_⟩
  apply List.ext_getElem?
  intro i
  rw [mixF_at, List.getElem?_set, mixF_len]
  by_cases hik : k = i
  · subst hik
    have hlt := (List.getElem?_eq_some_iff.1 hd).1
    rw [if_pos rfl, if_pos hlt, hd, Option.map_some, if_neg (fun q => ((h' _).1 q).2 rfl), hl]
  · rw [if_neg hik, mixF_at]
    cases D[i]? with
    | none => rfl
    | some d' =>
      rw [Option.map_some, Option.map_some]
      have : ((i : Int) ∈ left') = ((i : Int) ∈ left) := by
        rw [eq_iff_iff, h']
        exact ⟨fun q => q.1, fun q => ⟨q, by omega⟩⟩
      simp only [this]

/-- a sector is laid into its place -/
theorem DkIs.setD {W R : Nat → Prop} {w : World} {g : Nat} {s : Dk} {b : Nat} {gd cd : Nat} {V : List Value} {M : List (Int × Value × List UInt8)} (h : DkIs w g W R s b (.slice (some ⟨gd, 0, none⟩) s.D.length cd) V M) (k : Nat) {v : Value} {l : List UInt8} (hs : Sec w R v l) (hk : k < s.D.length) :
    DkIs (w.setCell ⟨gd, k, none⟩ v) g W R { s with D := s.D.set k l } b (.slice (some ⟨gd, 0, none⟩) (s.D.set k l).length cd) (V.set k v) M := by
  have hu := Upd.setCell w gd k v
  have hgd := h.wd gd rfl
  have hne : ∀ j, R j → ¬ j = gd := fun j hr q => h.wr _ hgd.1 (q ▸ hr)
  have hst := (h.own.stored k v).1
  refine ⟨h.blk.upd hu (fun q => hgd.2.1 q.symm) |> fun q => by simpa using q, by simpa using hst, ?_, h.map.upd hu (fun q => hgd.2.2 q.symm), h.eqC, fun p hp => (h.msec p hp).upd hu hne (fun _ => id), h.wg, h.wb, h.wd, h.ne, h.wr, fun j hj => by simpa using h.wlt j hj, fun j hj => by simpa using h.rlt j hj⟩
  intro i li hi
  simp only [List.getElem?_set] at hi
  have hVl : V.length = s.D.length := by have := h.own.1; omega
  by_cases hik : k = i
  · subst hik
    rw [if_pos rfl, if_pos hk] at hi
    obtain rfl := Option.some.inj hi
    exact ⟨v, by rw [List.getElem?_set, if_pos rfl, if_pos (by omega)], hs.upd hu hne (fun _ => id)⟩
  · rw [if_neg hik] at hi
    obtain ⟨u, h1, h2⟩ := h.sec i li hi
    exact ⟨u, by rw [List.getElem?_set, if_neg hik]; exact h1, h2.upd hu hne (fun _ => id)⟩
/-- the cache is empty -/
theorem DkIs.clearC {W R : Nat → Prop} {w w2 : World} {g : Nat} {s : Dk} {b : Nat} {dv : Value} {V : List Value} {M : List (Int × Value × List UInt8)} (h : DkIs w g W R s b dv V M) (hm : MapE w2 b []) (hu : Upd (fun k => k = b) w w2) : DkIs w2 g W R { s with C := [] } b dv V [] :=
  ⟨h.blk.upd hu (fun q => h.ne q), hu.owns h.own (fun k hk q => (h.wd k hk).2.2 q), fun i l hl => by obtain ⟨v, h1, h2⟩ := h.sec i l hl; exact ⟨v, h1, h2.upd hu (fun k hr q => h.wr _ h.wb (q ▸ hr)) (fun _ => id)⟩,
   hm, rfl, by simp, h.wg, h.wb, h.wd, h.ne, h.wr, fun k hk => Nat.lt_of_lt_of_le (h.wlt k hk) hu.size, fun k hk => Nat.lt_of_lt_of_le (h.rlt k hk) hu.size⟩
theorem DkIs.weaken {W R R' : Nat → Prop} {w : World} {g : Nat} {s : Dk} {b : Nat} {dv : Value} {V : List Value} {M : List (Int × Value × List UInt8)} (h : DkIs w g W R s b dv V M) (hR : ∀ k, R k → R' k) (hW : ∀ k, W k → ¬ R' k) (hl : ∀ k, R' k → k < w.heap.size) : DkIs w g W R' s b dv V M :=
  ⟨h.blk, h.own, fun i l hl => by obtain ⟨v, h1, h2⟩ := h.sec i l hl; exact ⟨v, h1, h2.1, fun k hk => hR k (h2.2 k hk)⟩, h.map, h.eqC, fun p hp => ⟨(h.msec p hp).1, fun k hk => hR k ((h.msec p hp).2 k hk)⟩, h.wg, h.wb, h.wd, h.ne, hW, h.wlt, hl⟩
/-- a state that makes sense -/
structure Dk.Ok (s : Dk) : Prop where
  key : ∀ p ∈ s.C, 0 ≤ p.1 ∧ p.1 < (s.D.length : Int) ∧ p.2.length = s.size
  sec : ∀ d ∈ s.D, d.length = s.size
  pos : 0 < s.D.length
  le : s.D.length ≤ 4096
  sz : s.size ≤ 4096
  sz0 : 16 ≤ s.size
theorem keys_adel {left : List (Int × Value)} (k : Int) : ∀ j : Int, j ∈ (adel left k).map (·.1) ↔ j ∈ left.map (·.1) ∧ j ≠ k := by
  intro j
  unfold adel
  simp only [List.mem_map, List.mem_filter, bne_iff_ne, ne_eq]
  constructor
  · rintro ⟨p, ⟨h1, h2⟩, rfl⟩; exact ⟨⟨p, h1, rfl⟩, h2⟩
  · rintro ⟨⟨p, h1, rfl⟩, h2⟩; exact ⟨p, ⟨h1, h2⟩, rfl⟩
theorem adel_len {left : List (Int × Value)} {k : Int} {v : Value} (h : (k, v) ∈ left) : (adel left k).length < left.length := by
  unfold adel
  rcases Nat.lt_or_ge (left.filter (fun p => p.1 != k)).length left.length with q | q
  · exact q
  · have e : left.filter (fun p => p.1 != k) = left := List.filter_eq_self.2 (by
      have := (List.length_filter_eq_length_iff (l := left) (p := fun p => p.1 != k)).1 (Nat.le_antisymm (List.length_filter_le _ _) q)
      exact this)
    have := List.filter_eq_self.1 e (k, v) h
    simp at this
end Go.Proofs.Ytdchopckbklncaa
