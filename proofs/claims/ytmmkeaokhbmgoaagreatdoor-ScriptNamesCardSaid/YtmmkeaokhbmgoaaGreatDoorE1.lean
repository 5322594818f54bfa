/- trail: New, Len, has, Get, Set (without marks), Grow. -/
import Derived.Test.YtmmkeaokhbmgoaaGreatDoorD1
import Derived.Test.YtmmkeaokhbmgoaaGreatDoorZ1
namespace Go.Proofs.YtmmkeaokhbmgoaaGreatDoor
open Go.RowKit

def cellsV (l : List (Int × Int)) : List Value := l.flatMap fun c => [.int .i64 c.1, .int .u64 c.2]
theorem cellsV_len (l : List (Int × Int)) : (cellsV l).length = l.length * 2 := by
  induction l with
  | nil => rfl
  | cons a l ih => simp only [cellsV, List.flatMap_cons, List.length_append, List.length_cons, List.length_nil] at *; omega
theorem cellsV_append (l m : List (Int × Int)) : cellsV (l ++ m) = cellsV l ++ cellsV m := by simp [cellsV]
theorem cellsV_get (l : List (Int × Int)) (k : Nat) (h : k < l.length) : (cellsV l)[k * 2]? = some (.int .i64 l[k].1) ∧ (cellsV l)[k * 2 + 1]? = some (.int .u64 l[k].2) := by
  induction l generalizing k with
  | nil => simp at h
  | cons a l ih =>
    cases k with
    | zero => simp [cellsV]
    | succ k =>
      have := ih k (by simpa using h)
      have e1 : (k + 1) * 2 = k * 2 + 1 + 1 := by omega
      have e2 : (k + 1) * 2 + 1 = k * 2 + 1 + 1 + 1 := by omega
      rw [e2, e1]
      simpa [cellsV] using this
theorem cellsV_set (l : List (Int × Int)) (k : Nat) (v : Int) (h : k < l.length) : (cellsV l).set (k * 2) (.int .i64 v) = cellsV (l.set k (v, l[k].2)) := by
  induction l generalizing k with
  | nil => simp at h
  | cons a l ih =>
    cases k with
    | zero => simp [cellsV]
    | succ k =>
      have := ih k (by simpa using h)
      have e1 : (k + 1) * 2 = k * 2 + 1 + 1 := by omega
      rw [e1]
      simpa [cellsV] using this
theorem ty_cells : SliceTy Tryz.prog 236 245 (.agg #[.int .i64 0, .int .u64 0]) 2 16 := ⟨Tryz.underlying236, info_parts (by kernel_rfl), rfl, by decide⟩

theorem cellsV_zeros (n i : Nat) (h : i < n * 2) : (cellsV (List.replicate n ((0 : Int), (0 : Int))))[i]? = some (if i % 2 = 0 then .int .i64 0 else .int .u64 0) := by
  have hk : i / 2 < (List.replicate n ((0 : Int), (0 : Int))).length := by simp; omega
  have := cellsV_get _ (i / 2) hk
  simp only [List.getElem_replicate] at this
  by_cases h2 : i % 2 = 0
  · rw [if_pos h2, show i = i / 2 * 2 by omega]; exact this.1
  · rw [if_neg h2]
    have e : i = i / 2 * 2 + 1 := by omega
    rw [e]; exact this.2
theorem zeros_cells (n : Nat) : (Builtin.zeroCells (Value.agg #[.int .i64 0, .int .u64 0]).cells n).toList = cellsV (List.replicate n (0, 0)) := by
  apply List.ext_getElem?
  intro i
  have hc : (Value.agg #[.int .i64 0, .int .u64 0]).cells = #[.int .i64 0, .int .u64 0] := rfl
  by_cases h : i < n * 2
  · rw [cellsV_zeros n i h, hc]
    simp only [Builtin.zeroCells, Array.getElem?_toList, Array.getElem?_map]
    rw [Array.getElem?_eq_getElem (by simpa using h)]
    simp only [Array.getElem_range, Option.map_some]
    rcases Nat.mod_two_eq_zero_or_one i with h2 | h2 <;> simp [h2]
  · rw [List.getElem?_eq_none (by rw [Array.length_toList, size_zeroCells, hc]; simp; omega), List.getElem?_eq_none (by rw [cellsV_len]; simp; omega)]
theorem made_cells (n : Nat) : (madeCells (Value.agg #[.int .i64 0, .int .u64 0]).cells (n * 2)).toList = cellsV (List.replicate n (0, 0)) := by
  apply List.ext_getElem?
  intro i
  have hc : (Value.agg #[.int .i64 0, .int .u64 0]).cells = #[.int .i64 0, .int .u64 0] := rfl
  by_cases h : i < n * 2
  · rw [cellsV_zeros n i h, hc]
    rw [List.getElem?_eq_getElem (by simpa [size_madeCells] using h)]
    simp only [madeCells, Array.getElem_toList, Array.getElem_map, Array.getElem_range]
    rcases Nat.mod_two_eq_zero_or_one i with h2 | h2 <;> simp [h2]
  · rw [List.getElem?_eq_none (by simp [size_madeCells]; omega), List.getElem?_eq_none (by rw [cellsV_len]; simp; omega)]

/-- A trail: its cells (value, stamp); the slots of the olds, the marks, the counter as they are. -/
structure Tr (w : World) (tb : Nat) (vc vo vm : Value) (ev : Int) (l : List (Int × Int)) : Prop where
  blk : Blk w tb 240 #[vc, vo, vm, .int .u64 ev]
  own : w.ownsRow 0 245 2 vc l.length (cellsV l)
  ne : ∀ g, vc.ownBlock = some g → g ≠ tb
  small : l.length ≤ 1000000
section
variable {w : World} {tb : Nat} {vc vo vm : Value} {ev : Int} {l : List (Int × Int)}
theorem Tr.upd {F : List Nat} {w' : World} (h : Tr w tb vc vo vm ev l) (hu : Upd F w w') (h1 : tb ∉ F) (h2 : ∀ g, vc.ownBlock = some g → g ∉ F) : Tr w' tb vc vo vm ev l :=
  ⟨h.blk.upd hu h1, own_upd h.own hu h2, h.ne, h.small⟩
theorem trLen (h : Tr w tb vc vo vm ev l) : Calls Tryz.prog 219 #[.pointer (some ⟨tb, 0, none⟩)] w fun e w' => e = .returned (.int .i64 l.length) ∧ w = w' := by
  obtain ⟨A, c, rfl, hc⟩ := own_form h.own
  have h0 := h.blk.cell 0
  simp at h0
  have H := Lib.hid h; clear h
  go_enter Tryz.func219, Tryz.ntmps219
  go_wp2_with fail
  go_ret
  exact ⟨rfl, rfl⟩
def inCells (l : List (Int × Int)) (i : Int) : Bool := decide (0 ≤ i) && decide (i < l.length)
theorem trHas (h : Tr w tb vc vo vm ev l) (i : Int) : Calls Tryz.prog 127 #[.pointer (some ⟨tb, 0, none⟩), .int .i64 i] w fun e w' => e = .returned (.bool (inCells l i)) ∧ w = w' := by
  have H := Lib.hid (trLen h)
  clear h
  by_cases hi : 0 ≤ i
  all_goals
    go_enter Tryz.func127, Tryz.ntmps127
    go_wp2_with (go_at_call 219; refine H.out.mono ?_; rintro e w' ⟨rfl, rfl⟩)
    go_ret
    simp [inCells, hi]
    try omega
def cellAt (l : List (Int × Int)) (i : Int) : Int := if 0 ≤ i then ((l[i.toNat]?).map (·.1)).getD 0 else 0
theorem trGet (h : Tr w tb vc vo vm ev l) (i : Int) : Calls Tryz.prog 92 #[.pointer (some ⟨tb, 0, none⟩), .int .i64 i] w fun e w' => e = .returned (.int .i64 (cellAt l i)) ∧ w = w' := by
  have HH := Lib.hid (trHas h i)
  by_cases hi : 0 ≤ i ∧ i < l.length
  · have h1 : 0 ≤ i := hi.1
    have h2 : i < l.length := hi.2
    have hlt : i.toNat < l.length := by omega
    obtain ⟨g, c, rfl, _, _, hc⟩ := own_some h.own (by omega)
    have hv := own_cell' h.own (cellsV_get l i.toNat hlt).1
    have hr : cellAt l i = l[i.toNat].1 := by simp [cellAt, h1, hlt]
    have h0 := h.blk.cell 0
    simp at h0
    have hd : inCells l i = true := by simp [inCells, h1, h2]
    rw [hd] at HH
    rw [hr]
    obtain ⟨k, rfl⟩ := Int.eq_ofNat_of_zero_le h1
    have hk : k < l.length := by simpa using hlt
    simp only [Int.toNat_natCast] at hv
    have H := Lib.hid h; clear h hi hd hr
    go_enter Tryz.func92, Tryz.ntmps92
    go_wp2_with (go_at_call 127; refine HH.out.mono ?_; rintro e w' ⟨rfl, rfl⟩)
    go_ret
    simp
  · have hd : inCells l i = false := by
      unfold inCells; rw [Bool.and_eq_false_iff]; simp only [decide_eq_false_iff_not]; omega
    have hr : cellAt l i = 0 := by
      unfold cellAt
      split
      · rw [List.getElem?_eq_none (by omega)]; rfl
      · rfl
    rw [hd] at HH
    rw [hr]
    clear hd hr hi h
    go_enter Tryz.func92, Tryz.ntmps92
    go_wp2_with (go_at_call 127; refine HH.out.mono ?_; rintro e w' ⟨rfl, rfl⟩)
    go_ret
    exact ⟨rfl, rfl⟩
def SetPost (w : World) (tb : Nat) (vc vo vm : Value) (ev : Int) (l : List (Int × Int)) (e : Ending) (w' : World) : Prop :=
  e = .returned (.int .i64 0) ∧ Tr w' tb vc vo vm ev l ∧ ∀ F : List Nat, (∀ g, vc.ownBlock = some g → g ∈ F) → Upd F w w'
theorem trSet0 {A : Option Addr} {c : Nat} (h : Tr w tb vc vo (.slice A 0 c) ev l) (k : Nat) (hk : k < l.length) (v : Int) :
    Calls Tryz.prog 49 #[.pointer (some ⟨tb, 0, none⟩), .int .i64 k, .int .i64 v] w (SetPost w tb vc vo (.slice A 0 c) ev (l.set k (v, l[k].2))) := by
  have HH := Lib.hid (trHas h k)
  have hd : inCells l k = true := by simp [inCells, hk]
  rw [hd] at HH
  have hsm := h.small
  obtain ⟨g, cc, rfl, _, hgl, hc⟩ := own_some h.own (by omega)
  have hv := own_cell' h.own (cellsV_get l k hk).1
  have hfz := own_froz h.own (k * 2)
  have h0 := h.blk.cell 0
  have h2 := h.blk.cell 2
  simp at h0 h2
  have H := Lib.hid h; clear h hd
  go_enter Tryz.func49, Tryz.ntmps49
  go_wp2_with (go_at_call 127; refine HH.out.mono ?_; rintro e w' ⟨rfl, rfl⟩)
  go_ret
  have h := H.out
  have hne := h.ne g rfl
  refine ⟨rfl, ⟨h.blk.far (by simpa using Ne.symm hne) _, ?_, h.ne, by simpa using h.small⟩, fun F hF => (Upd.refl _ _).setCell (.inl (hF g rfl)) _⟩
  have := own_set h.own (k * 2) (.int .i64 v)
  rw [cellsV_set l k v hk] at this
  simpa using this
theorem trNew (n : Nat) (hn : n ≤ 1000000) (w : World) :
    Calls Tryz.prog 48 #[.int .i64 n] w fun e w' => ∃ tb g c, e = .returned (.pointer (some ⟨tb, 0, none⟩)) ∧ w.heap.size ≤ tb ∧ w.heap.size ≤ g ∧
      Tr w' tb (.slice (some ⟨g, 0, none⟩) n c) (.slice none 0 0) (.slice none 0 0) 0 (List.replicate n (0, 0)) ∧ Upd [] w w' := by
  have hmax : max (n : Int) 0 = n := by omega
  go_enter Tryz.func48, Tryz.ntmps48
  go_wp2_with (at_make; go_must (refine wpList_make_sl _ rfl _ _ rfl ty_cells _ n (by simp [Act.eval]) (by simp [Act.eval]) rfl (by omega) (by unfold maxLen; omega) ?_); intro w1 hown hg)
  go_ret
  have hu : Upd [] w w1 := (Upd.refl _ _).grown hg (fun k hk => by cases hk)
  rw [made_cells] at hown
  have hlt := own_lt hown _ rfl
  refine ⟨_, _, _, rfl, hu.size, Nat.le_refl _, ⟨Blk.new _ _ _, ?_, ?_, by simp; omega⟩, hu.alloc _⟩
  · have := hown.alloc (.cells #[.slice (some ⟨w.heap.size, 0, none⟩) n n, .slice none 0 0, .slice none 0 0, .int .u64 0] 240)
    obtain ⟨h1, h2⟩ := this
    refine ⟨by rw [cellsV_len], ?_⟩
    rcases h2 with ⟨h3, _⟩ | ⟨g, cap, cur, h3, h4, h5⟩
    · cases h3
    · rw [List.length_replicate]; exact .inr ⟨g, cap, cur, h3, by omega, h5⟩
  · rintro g ⟨⟩; have := hlt.2; dsimp only at this; omega

def GrowPost (w : World) (tb : Nat) (vc vo vm : Value) (ev : Int) (l : List (Int × Int)) (m : Nat) (e : Ending) (w' : World) : Prop :=
  ∃ vc', e = .returned (.int .i64 l.length) ∧ Tr w' tb vc' vo vm ev (l ++ List.replicate m (0, 0)) ∧ (∀ g, vc'.ownBlock = some g → vc.ownBlock = some g ∨ w.heap.size ≤ g) ∧
    ∀ F : List Nat, tb ∈ F → (∀ g, vc.ownBlock = some g → g ∈ F) → Upd F w w'
theorem trGrow (h : Tr w tb vc vo vm ev l) (m : Nat) (hm : 0 < m) (hs : l.length + m ≤ 1000000) :
    Calls Tryz.prog 128 #[.pointer (some ⟨tb, 0, none⟩), .int .i64 m] w (GrowPost w tb vc vo vm ev l m) := by
  have HH := Lib.hid (trLen h)
  have h0 := h.blk.cell 0
  have f0 := h.blk.froz 0
  simp at h0
  have H := Lib.hid h; clear h
  have hm' : (0 : Int) < m := by omega
  have HS := Lib.hid hs
  go_enter Tryz.func128, Tryz.ntmps128
  go_wp2_with (first | (go_at_call 219; refine HH.out.mono ?_; rintro e w' ⟨rfl, rfl⟩) | (at_builtin; go_must (refine wpList_append_zeros rfl _ _ rfl ty_cells Tryz.underlying3 0 vc l.length (cellsV l) rfl H.out.own m rfl hm (by rw [zeros_cells]; simp [cellsV]; (try (rintro u x y _ _ _ (rfl | rfl) <;> rfl))) (by have := HS.out; unfold maxLen; omega) (by have := HS.out; omega) (Nat.zero_le _) ?_); intro v5 w5 hown hg hv; obtain ⟨g5, c5, rfl, hg5, hl5, hc5⟩ := own_some hown (by omega); have hU : Upd vc.ownBlock.toList w w5 := (Upd.refl _ _).grown hg (fun k hk => .inl (by simp [hk])); have hB5 := H.out.blk.upd hU (by intro hx; exact H.out.ne tb (by simpa using hx) rfl); have k0 := hB5.cell 0; have fz0 := hB5.froz 0; simp only [List.size_toArray, List.length_cons, Nat.lt_add_left_iff_pos, Nat.zero_lt_succ, Array.getElem?_eq_getElem, List.getElem_toArray, List.getElem_cons_zero] at k0))
  go_ret
  rw [zeros_cells, ← cellsV_append] at hown
  have hne : g5 ≠ tb := by
    rcases hv g5 rfl with h1 | h1
    · exact H.out.ne g5 h1
    · have := H.out.blk.lt; omega
  refine ⟨_, rfl, ⟨by simpa using hB5.set 0 (.slice (some ⟨g5, 0, none⟩) (l.length + m) c5), ?_, ?_, by simpa using hs⟩, hv, fun F h1 h2 => ?_⟩
  · have := own_upd hown ((Upd.refl [tb] w5).setCell (p := ⟨tb, 0, none⟩) (.inl (by simp)) (.slice (some ⟨g5, 0, none⟩) (l.length + m) c5)) (by rintro g ⟨⟩; simpa using hne)
    simpa using this
  · rintro g ⟨⟩; exact hne
  · exact (hU.mono (fun x hx => h2 x (by simpa using hx))).setCell (.inl h1) _
end
end Go.Proofs.YtmmkeaokhbmgoaaGreatDoor
