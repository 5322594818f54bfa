/- state.New of a network without functions. -/
import Derived.Test.YtmmkeaokhbmgoaaGreatDoorE3
import Derived.Deep.RegionLaw
namespace Go.Proofs.YtmmkeaokhbmgoaaGreatDoor
open Go.RowKit

theorem lay_any' (w : World) (sb tb : Nat) (t : TypeId) (c0 c2 c3 c4 : Value) (hS : Blk w sb t #[c0, .pointer (some ⟨tb, 0, none⟩), c2, c3, c4]) (vc vo : Value) (A0 : Option Addr) (cm : Nat) (ev : Int) (l : List (Int × Int)) (hT : Tr w tb vc vo (.slice A0 0 cm) ev l)
    (hst : sb ≠ tb) (hsv : ∀ g, vc.ownBlock = some g → g ≠ sb) (vs : List Int) (A : Option Addr) (n c : Nat) (hn : n = vs.length) (hs : Sl w (tb :: vc.ownBlock.toList) 1 A n (vs.map intV)) (h0 : 0 < vs.length) (hm : l.length + vs.length ≤ 1000000) :
    Calls Tryz.prog 53 #[.pointer (some ⟨sb, 0, none⟩), .slice A n c] w (LayPost w tb vc vo (.slice A0 0 cm) ev l vs) := by
  subst hn; exact lay_any w sb tb t c0 c2 c3 c4 hS vc vo A0 cm ev l hT hst hsv vs A c hs h0 hm
theorem own_of_blk {w : World} {g : Nat} {t : TypeId} {cs : Array Value} (h : Blk w g t cs) (base size n : Nat) (hb : base ≤ g) (hs : cs.size = n * size) (hm : n ≤ maxLen) : w.ownsRow base t size (.slice (some ⟨g, 0, none⟩) n n) n cs.toList :=
  ⟨by simpa using hs, .inr ⟨g, n, cs, rfl, hb, h, Nat.le_refl _, hm, hs, by rw [List.take_of_length_le]; simp [hs]⟩⟩

/-- The numbers of the first cells, of the variables' cells. -/
def cellsOf (zero : Int) (un : List (List Int)) : List Int := [zero, 0, 0] ++ un.flatMap fun r => 0 :: 0 :: r
def posOf (un : List (List Int)) (k : Nat) : Nat := (cellsOf 0 (un.take k)).length
def posV (un : List (List Int)) (k : Nat) : List Value := (List.range k).map fun j => .int .i64 (posOf un j)

theorem cellsOf_snoc (zero : Int) (un : List (List Int)) (k : Nat) (h : k < un.length) : cellsOf zero (un.take (k + 1)) = cellsOf zero (un.take k) ++ (0 :: 0 :: un[k]) := by
  rw [List.take_add_one, List.getElem?_eq_getElem h]
  simp only [cellsOf, List.flatMap_append, Option.toList_some, List.flatMap_cons, List.flatMap_nil, List.append_nil, List.append_assoc]
theorem cellsOf_len (zero : Int) (un : List (List Int)) (k : Nat) : (cellsOf zero (un.take k)).length = posOf un k := by simp [cellsOf, posOf]
theorem posV_snoc (un : List (List Int)) (k : Nat) : posV un (k + 1) = posV un k ++ [.int .i64 (posOf un k)] := by simp [posV, List.range_succ]
theorem cellsOf_le (zero : Int) (un : List (List Int)) (k : Nat) : (cellsOf zero (un.take k)).length ≤ (cellsOf zero un).length := by
  simp only [cellsOf, List.length_append, List.length_flatMap]
  have : (List.map (fun r : List Int => (0 :: 0 :: r).length) (un.take k)).sum ≤ (List.map (fun r : List Int => (0 :: 0 :: r).length) un).sum := by
    conv => rhs; rw [← List.take_append_drop k un]
    rw [List.map_append, List.sum_append]; omega
  exact Nat.add_le_add_left this _

/-- A state without functions, nothing gone, no mark. -/
structure St0 (w : World) (sb nb tb : Nat) (vc V : Value) (un : List (List Int)) (k : Nat) (l : List (Int × Int)) : Prop where
  blk : Blk w sb 139 #[.pointer (some ⟨nb, 0, none⟩), .pointer (some ⟨tb, 0, none⟩), V, .slice none 0 0, .slice none 0 0]
  tr : Tr w tb vc (.slice none 0 0) (.slice none 0 0) 0 l
  own : w.ownsRow 0 3 1 V k (posV un k)
  ne : sb ≠ tb
  nec : ∀ g, vc.ownBlock = some g → g ≠ sb
  neV : ∀ g, V.ownBlock = some g → g ≠ sb ∧ g ≠ tb
  neVc : ∀ g, V.ownBlock = some g → vc.ownBlock ≠ some g

section
variable {w w' : World} {sb nb tb : Nat} {vc V : Value} {un : List (List Int)} {k : Nat} {l : List (Int × Int)}
theorem St0.upd {F : List Nat} (h : St0 w sb nb tb vc V un k l) (hu : Upd F w w') (h1 : sb ∉ F) (h2 : tb ∉ F) (h3 : ∀ g, vc.ownBlock = some g → g ∉ F) (h4 : ∀ g, V.ownBlock = some g → g ∉ F) : St0 w' sb nb tb vc V un k l :=
  ⟨h.blk.upd hu h1, h.tr.upd hu h2 h3, own_upd h.own hu h4, h.ne, h.nec, h.neV, h.neVc⟩
theorem St0.fresh (h : St0 w sb nb tb vc V un k l) (hu : Upd [] w w') : St0 w' sb nb tb vc V un k l := h.upd hu (by simp) (by simp) (by simp) (by simp)
theorem St0.laid {vc' : Value} {l' : List (Int × Int)} (h : St0 w sb nb tb vc V un k l) (hT : Tr w' tb vc' (.slice none 0 0) (.slice none 0 0) 0 l') (hv : ∀ g, vc'.ownBlock = some g → vc.ownBlock = some g ∨ w.heap.size ≤ g)
    (hU : Upd (tb :: vc.ownBlock.toList) w w') : St0 w' sb nb tb vc' V un k l' :=
  ⟨h.blk.upd hU (by simp; exact ⟨h.ne, fun hx => h.nec _ hx rfl⟩), hT, own_upd h.own hU (fun g hg => by simp; exact ⟨(h.neV g hg).2, fun hx => h.neVc g hg hx⟩), h.ne, fun g hg => by
    rcases hv g hg with h1 | h1
    · exact h.nec g h1
    · have := h.blk.lt; omega, h.neV, fun g hg hx => by
    rcases hv g hx with h1 | h1
    · exact h.neVc g hg h1
    · have := (own_lt h.own g hg).2; omega⟩
theorem St0.grown {v' : Value} (h : St0 w sb nb tb vc V un k l) (hown : w'.ownsRow 0 3 1 v' (k + 1) (posV un (k + 1))) (hg : w.grownBy w' V.ownBlock) (hv : ∀ g, v'.ownBlock = some g → V.ownBlock = some g ∨ w.heap.size ≤ g) :
    St0 (w'.setCell ⟨sb, 2, none⟩ v') sb nb tb vc v' un (k + 1) l := by
  have hu : Upd V.ownBlock.toList w w' := (Upd.refl _ _).grown hg (fun x hx => .inl (by simp [hx]))
  have hs : sb ∉ V.ownBlock.toList := by simp; exact fun hx => (h.neV sb hx).1 rfl
  have ht : tb ∉ V.ownBlock.toList := by simp; exact fun hx => (h.neV tb hx).2 rfl
  have hvn : ∀ g, v'.ownBlock = some g → g ≠ sb ∧ g ≠ tb := by
    intro g hg'
    rcases hv g hg' with h1 | h1
    · exact h.neV g h1
    · have := h.blk.lt; have := h.tr.blk.lt; omega
  have hT := (h.tr.upd hu ht (fun g hg' hx => h.neVc g (by simpa using hx) hg')).upd ((Upd.refl [sb] w').setCell (p := ⟨sb, 2, none⟩) (.inl (by simp)) v') (by simpa using Ne.symm h.ne) (fun g hg' => by simpa using h.nec g hg')
  refine ⟨by simpa using (h.blk.upd hu hs).set 2 v', hT, ?_, h.ne, h.nec, hvn, fun g hg' hx => ?_⟩
  · exact own_upd hown ((Upd.refl [sb] w').setCell (p := ⟨sb, 2, none⟩) (.inl (by simp)) v') (fun g hg' => by simpa using (hvn g hg').1)
  · rcases hv g hg' with h1 | h1
    · exact h.neVc g h1 hx
    · have := (own_lt h.tr.own g hx).2; omega
end
def NewPost (w : World) (nb : Nat) (zero : Int) (un : List (List Int)) (e : Ending) (w' : World) : Prop :=
  ∃ sb tb vc V, e = .returned (.pointer (some ⟨sb, 0, none⟩)) ∧ St0 w' sb nb tb vc V un un.length (stamp0 (cellsOf zero un)) ∧ w.heap.size ≤ sb ∧ w.heap.size ≤ tb ∧ (∀ g, vc.ownBlock = some g → w.heap.size ≤ g) ∧ (∀ g, V.ownBlock = some g → w.heap.size ≤ g) ∧ Upd [] w w'

set_option maxHeartbeats 1000000 in
set_option maxRecDepth 100000 in
theorem stateNew (w : World) (nb : Nat) (K zero : Int) (sizes : List Int) (un : List (List Int)) (A : Option Addr) (cf : Nat) (hN : Nt w [] nb K zero sizes un A 0 cf) (hm : (cellsOf zero un).length ≤ 1000000) :
    Calls Tryz.prog 14 #[.pointer (some ⟨nb, 0, none⟩)] w (NewPost w nb zero un) := by
  have HM := Lib.hid hm; clear hm
  go_enter Tryz.func14, Tryz.ntmps14
  go_wp2_with (go_at_call 48; refine (trNew 3 (by decide) _).mono ?_; rintro e w1 ⟨tb, g, c, rfl, htb, hgb, hT, hu1⟩)
  obtain ⟨W, hW⟩ : ∃ W, W = w1.alloc (.cells #[.pointer (some ⟨nb, 0, none⟩), .pointer (some ⟨tb, 0, none⟩), .slice none 0 0, .slice none 0 0, .slice none 0 0] 139) := ⟨_, rfl⟩
  rw [← hW]
  have hBs : Blk W w1.heap.size 139 #[.pointer (some ⟨nb, 0, none⟩), .pointer (some ⟨tb, 0, none⟩), .slice none 0 0, .slice none 0 0, .slice none 0 0] := by rw [hW]; exact Blk.new _ _ _
  have hu2 : Upd [] w1 W := by rw [hW]; exact (Upd.refl _ _).alloc _
  have hTW := hT.upd hu2 (by simp) (by simp)
  have hNW := (hN.upd hu1).upd hu2
  have hst : w1.heap.size ≠ tb := Nat.ne_of_gt hT.blk.lt
  have hsg : g ≠ w1.heap.size := Nat.ne_of_lt (own_lt hT.own g rfl).2
  have hsz : w.heap.size ≤ w1.heap.size := hu1.size
  have huW := hu1.trans hu2
  generalize w1.heap.size = sb at hBs hst hsg hsz ⊢
  clear hW hu2 hT hu1
  have q1 := hBs.cell 1
  simp at q1
  have HN := Lib.hid hNW
  have HN0 := Lib.hid hN
  have HT := Lib.hid hTW
  clear hNW hTW hN
  go_region_held3 (fun w' => w'.cell? ⟨sb, 1, none⟩ = some (.pointer (some ⟨tb, 0, none⟩)))
    (first | exact q1 | exact kk)
    (first | (go_at_call 50; refine (ntZero (HN.out.upd ((Upd.refl _ _).drew))).mono ?_; rintro e w' ⟨rfl, rfl⟩) | (go_at_call 49; refine (trSet0 (HT.out.upd (F := []) ((Upd.refl _ _).drew) (by simp) (by simp)) 0 (by simp) zero).mono ?_; rintro e w5 ⟨rfl, hT5, hU5⟩; have hu5 : Upd [g] W w5 := ((Upd.refl _ _).drew).trans (hU5 _ (by simp [Value.ownBlock])); have kk := hu5.cell q1 (by simpa using Ne.symm hsg)))
  have hu6 : Upd [] w w5 := huW.then hu5 (by simp [hgb])
  have hB5 := hBs.upd hu5 (by simpa using Ne.symm hsg)
  have hS5 : St0 w5 sb nb tb (.slice (some ⟨g, 0, none⟩) 3 c) (.slice none 0 0) un 0 (stamp0 (cellsOf zero (un.take 0))) :=
    ⟨hB5, hT5, World.ownsRow_nil _ _ _ _, hst, by rintro x ⟨⟩; exact hsg, by rintro x ⟨⟩, by rintro x ⟨⟩⟩
  have hlen := HN0.out.len
  have hsm := HN0.out.small.1
  clear hB5 hT5 hU5 hu5 kk hBs HT HN q1
  go_wp2_with (go_at_call 51; refine (ntN (HN0.out.upd hu6)).mono ?_; rintro e w' ⟨rfl, rfl⟩)
  go_loopw [22] (fun i wr => ∃ k vc V, k ≤ un.length ∧ i = .int .i64 k ∧ St0 wr sb nb tb vc V un k (stamp0 (cellsOf zero (un.take k))) ∧ (∀ g, vc.ownBlock = some g → w.heap.size ≤ g) ∧ (∀ g, V.ownBlock = some g → w.heap.size ≤ g) ∧ Upd [] w wr) (fun i _ => un.length - (intOf i).toNat)
  case atStart => exact ⟨0, _, _, by omega, rfl, hS5, by rintro x ⟨⟩; exact hgb, by rintro x ⟨⟩, hu6⟩
  case round =>
    obtain ⟨k, vc, V, hk, rfl, hS, hvc, hV, hur⟩ := hrel
    by_cases hlt : k < un.length
    · have hrow : rowAt un k = un[k] := by simp [rowAt, hlt]
      have hun := ntUnary (HN0.out.upd hur) k
      unfold UnPost at hun
      rw [hrow] at hun
      clear hrow
      have hkl : (k : Int) < sizes.length := by omega
      have HUN := Lib.hid hun
      have HS := Lib.hid hS
      have HUR := Lib.hid hur
      clear hun hS hur hS5 hu6
      go_wp2_with (go_at_call 52; refine HUN.out.mono ?_; rintro e w7 ⟨n, c1, A1, rfl, hown7, rfl, hu7⟩)
      have hS7 := HS.out.fresh hu7
      have hSX := hS7.fresh ((Upd.refl [] w7).alloc (.cells #[.int .i64 0, .int .i64 0] 2))
      have hnew := own_of_blk (Blk.new w7 2 #[.int .i64 0, .int .i64 0]) w7.heap.size 1 2 (Nat.le_refl _) rfl (by decide)
      have hrowX : Sl (w7.alloc (.cells #[.int .i64 0, .int .i64 0] 2)) [] 1 A1 un[k].length (un[k].map intV) := (Sl.of_own [] hown7 (by simp)).alloc _
      have q2 := hS7.blk.cell 2
      have k2 : ∀ o, (w7.alloc o).cell? ⟨sb, 2, none⟩ = some V := fun o => by simpa using (hS7.blk.alloc o).cell 2
      simp at q2
      have hlk := cellsOf_le zero un (k + 1)
      rw [cellsOf_snoc zero un k hlt] at hlk
      have HSX := Lib.hid hSX
      have HNEW := Lib.hid hnew
      have HROW := Lib.hid hrowX
      have HLK := Lib.hid hlk
      have HS7 := Lib.hid hS7
      have hlk2 : (stamp0 (cellsOf zero (List.take k un))).length + (0 :: 0 :: un[k]).length ≤ 1000000 := by
        have := HM.out; rw [List.length_append] at hlk; simp only [stamp0, List.length_map]; omega
      have HLK2 := Lib.hid hlk2
      have hF : ∀ x ∈ tb :: vc.ownBlock.toList, x < w7.heap.size := by
        intro x hx
        simp at hx
        rcases hx with rfl | hx
        · exact hS7.tr.blk.lt
        · exact (own_lt hS7.tr.own x hx).2
      have HF := Lib.hid hF
      have hVs : sb ∉ V.ownBlock.toList := by simp; exact fun hx => (hS7.neV sb hx).1 rfl
      have HVs := Lib.hid hVs
      have posEq : posV un k ++ [Value.int .i64 (stamp0 (cellsOf zero (List.take k un))).length] = posV un (k + 1) := by
        rw [posV_snoc]; simp [stamp0, cellsOf_len]
      have HB3 := Lib.hid (show k + 1 ≤ maxLen by unfold maxLen; omega)
      have HB4 := Lib.hid (show (k + 1) * 8 ≤ 140737488355328 by omega)
      clear hS7 hSX hnew hrowX hown7 hlk hlk2 hF hVs
      have hrl : un[k].length + 2 ≤ 1000000 := by have := HLK.out; have := HM.out; simp only [List.length_append, List.length_cons] at *; omega
      have HB1 := Lib.hid (show 2 + un[k].length ≤ maxLen by unfold maxLen; omega)
      have HB2 := Lib.hid (show (2 + un[k].length) * 8 ≤ 140737488355328 by omega)
      have HRL := Lib.hid hrl
      clear hrl
      go_region_law (first | (refine step_append_sl rfl (.tmp 34) (.tmp 35) rfl ty_int64s w7.heap.size _ 2 _ rfl HNEW.out [] A1 un[k].length c1 (un[k].map intV) rfl HROW.out (intV_one _) HB1.out HB2.out ?_ ?_; (simp); intro v8 w8 hown8 hg8 hv8 hnil8; obtain ⟨g8, c8, rfl, hg8', hl8, hc8⟩ := own_some hown8 (by omega); have hu8 : Upd [] w7 w8 := Upd.then (F := []) (G := [w7.heap.size]) (Upd.drew ((Upd.refl [] w7).alloc (.cells #[.int .i64 0, .int .i64 0] 2))) ((Upd.refl _ _).grown hg8 (fun x hx => .inl (by cases hx; simp))) (by simp); have hS8 := HS7.out.fresh hu8; have q8 : w8.cell? ⟨sb, 2, none⟩ = some V := (by simpa using hS8.blk.cell 2); have HS8 := Lib.hid hS8; clear hS8) | (go_simp; go_at_call 53; refine (lay_any' w8 sb tb _ _ _ _ _ HS8.out.blk vc _ none 0 0 _ HS8.out.tr HS8.out.ne HS8.out.nec (0 :: 0 :: un[k]) _ _ _ (by simp; omega) (Sl.of_own _ hown8 HF.out) (by simp) HLK2.out).mono ?_; rintro e w9 ⟨vc9, rfl, hT9, hv9, hU9⟩; have HS9 := Lib.hid (HS8.out.laid hT9 hv9 (hU9 _ (by simp) (by intro x hx; simp [hx]))); have HV9 := Lib.hid hv9; clear hv9 hT9; have q9 : w9.cell? ⟨sb, 2, none⟩ = some V := (by simpa using HS9.out.blk.cell 2); have k9 : ∀ o, (w9.alloc o).cell? ⟨sb, 2, none⟩ = some V := (fun o => by simpa using (HS9.out.blk.alloc o).cell 2); go_wp2_with fail) | (refine step_append_sl rfl (.tmp 32) (.tmp 38) rfl ty_ints 0 V k (posV un k) rfl (HS9.out.own.alloc _) [] _ 1 1 [.int .i64 (stamp0 (cellsOf zero (List.take k un))).length] rfl (Sl.of_blk (cs := #[.int .i64 (stamp0 (cellsOf zero (List.take k un))).length]) (t := 3) (by exact Blk.new w9 _ _) (by simp)) (by simp [Value.oneCell']) HB3.out HB4.out (Nat.zero_le _) ?_; intro v10 w10 hown10 hg10 hv10 hnil10; rw [posEq] at hown10; have HSF := Lib.hid ((HS9.out.fresh ((Upd.refl [] w9).alloc _)).grown hown10 hg10 hv10); have hB10 := ((HS9.out.blk.alloc (.cells #[.int .i64 (stamp0 (cellsOf zero (List.take k un))).length] 3)).upd ((Upd.refl V.ownBlock.toList _).grown hg10 (fun x hx => .inl (by simp [hx]))) HVs.out); have q10 : w10.cell? ⟨sb, 2, none⟩ = some V := (by simpa using hB10.cell 2); have f10 := hB10.froz 2; obtain ⟨g10, c10, rfl, hg10', hl10, hc10⟩ := own_some hown10 (by omega)))
      all_goals
        have e1 := ((HUR.out.then_nil hu7).then_nil hu8).then (hU9 (tb :: vc.ownBlock.toList) (by simp) (by intro x hx; simp [hx])) (by
          intro x hx
          simp at hx
          rcases hx with rfl | hx
          · exact .inr htb
          · exact .inr (hvc x hx))
        have e2 := (e1.alloc (.cells #[.int .i64 (stamp0 (cellsOf zero (List.take k un))).length] 3)).grown hg10 (fun x hx => .inr (hV x hx))
        have e3 := e2.setCell (p := ⟨sb, 2, none⟩) (.inr hsz) (.slice (some ⟨g10, 0, none⟩) (k + 1) c10)
        have hvc9 : ∀ g, vc9.ownBlock = some g → w.heap.size ≤ g := by
          intro g hg
          rcases HV9.out g hg with h1 | h1
          · exact hvc g h1
          · have := ((HUR.out.then_nil hu7).then_nil hu8).size; omega
        have hV10 : ∀ g, (Value.slice (some ⟨g10, 0, none⟩) (k + 1) c10).ownBlock = some g → w.heap.size ≤ g := by
          intro g hg
          rcases hv10 g hg with h1 | h1
          · exact hV g h1
          · have := e1.size; simp at h1; omega
        have hfin := HSF.out
        rw [show stamp0 (cellsOf zero (List.take k un)) ++ stamp0 (0 :: 0 :: un[k]) = stamp0 (cellsOf zero (un.take (k + 1))) by rw [cellsOf_snoc zero un k hlt]; simp [stamp0]] at hfin
        have HFIN := Lib.hid hfin
        clear hfin e1 e2
        generalize w10.setCell ⟨sb, 2, none⟩ (.slice (some ⟨g10, 0, none⟩) (k + 1) c10) = wz at *
        go_wp2_with fail
        go_roundw
      any_goals first
        | (case rel => exact ⟨k + 1, vc9, _, by omega, by go_num, HFIN.out, hvc9, hV10, e3⟩)
        | (case measure => simp [intOf]; omega)
        | skip
    · obtain rfl : k = un.length := by omega
      have hnl : ¬ ((un.length : Int) < sizes.length) := by omega
      go_wp2_with (go_at_call 54; refine (ntFuns (HN0.out.upd hur)).mono ?_; rintro e w' ⟨rfl, rfl⟩)
      have HSR := Lib.hid hS
      clear hS
      refine wp_loop_rounds 1 ?_
      rw [rounds_succ]
      go_wp2_with fail
      go_ret
      have hfin := HSR.out
      rw [List.take_length] at hfin
      exact ⟨sb, tb, vc, V, rfl, hfin, hsz, htb, hvc, hV, hur⟩
end Go.Proofs.YtmmkeaokhbmgoaaGreatDoor
