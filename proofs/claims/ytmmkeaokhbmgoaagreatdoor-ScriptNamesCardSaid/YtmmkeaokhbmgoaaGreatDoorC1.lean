/- What Canon meets of a file without functions: Count and word of its name, ContainsFunc, Right. -/
import Derived.Test.YtmmkeaokhbmgoaaGreatDoorS9
import Derived.WalkMore
namespace Go.Proofs.YtmmkeaokhbmgoaaGreatDoor
open Go.RowKit

theorem one_w0 : wordR [116] 0 = ([116], 0, 0, 1, -1) := by simp [wordR, skipTo, wordTo, btB, inB]
theorem one_w1 : wordR [116] 1 = ([], 1, 2, 1, -1) := by simp [wordR, skipTo, wordTo]

set_option maxRecDepth 100000 in
set_option maxHeartbeats 1000000 in
theorem count1 (A : Option Addr) (c : Nat) (w : World) (hs : Sl w [] 1 A 1 ([116].map byteV)) :
    Calls Tryz.prog 253 #[.slice A 1 c] w fun e w' => e = .returned (.tuple #[.int .i64 1, .int .i64 1, .int .i64 0]) ∧ Upd [] w w' := by
  go_enter Tryz.func253, Tryz.ntmps253
  go_wp2_with fail
  go_step3
  go_wp2_with fail
  refine (scanNew_any [] A [116] c w hs (by decide)).mono ?_
  rintro e w1 ⟨bs, A1, c1, rfl, hbs, hc1, hB, hSl, hA1, hu1⟩
  go_wp2_with fail
  go_step3
  go_wp2_with fail
  refine wp_loop_rounds 2 ?_
  rw [rounds_succ]
  go_wp2_with fail
  have hw1 := word_any bs _ A1 [116] c1 0 w1 (by decide) (by decide) hc1 hB hSl
  unfold WordPost at hw1
  rw [one_w0] at hw1
  refine hw1.mono ?_
  rintro e w2 ⟨rfl, hu2, hB2⟩
  clear hw1
  go_wp2_with fail
  rw [rounds_succ]
  go_wp2_with fail
  have hw1 := word_any bs _ A1 [116] c1 1 w2 (by decide) (by decide) hc1 hB2 (hSl.upd hu2)
  unfold WordPost at hw1
  rw [one_w1] at hw1
  refine hw1.mono ?_
  rintro e w3 ⟨rfl, hu3, hB3⟩
  clear hw1
  go_wp2_with fail
  rw [Exit.noGoto_ret]
  go_ret3
  exact ⟨rfl, (hu1.then (hu2.trans hu3) (by simp; omega))⟩

def isBad (n : Int) : Bool := decide (n < 1) || decide (32 < n)
theorem right1_any (n : Int) (w : World) : Calls Tryz.prog 191 #[.int .i64 n] w fun e w' => e = .returned (.bool (isBad n)) ∧ w = w' := by
  by_cases h : n < 1
  all_goals
    go_enter Tryz.func191, Tryz.ntmps191
    go_wp2
    go_ret
    simp [isBad]
    try omega

theorem idxInts_any (A : Option Addr) (c : Nat) (xs : List Int) (w : World) (hs : Sl w [] 1 A xs.length (xs.map intV)) (hm : xs.length ≤ 65536) (hok : ∀ x ∈ xs, isBad x = false) :
    Calls Tryz.prog 252 #[.slice A xs.length c, .func (.func 191) #[] #[]] w fun e w' => e = .returned (.int .i64 (-1)) ∧ w = w' := by
  go_enter Tryz.func252, Tryz.ntmps252
  go_wp2_with fail
  go_loop [8] (fun i => ∃ k : Nat, k ≤ xs.length ∧ i = .int .i64 k) (fun i => xs.length - (intOf i).toNat)
  case atStart => exact ⟨0, by omega, rfl⟩
  case round =>
    obtain ⟨k, hk, rfl⟩ := hrel
    by_cases hlt : k < xs.length
    · obtain ⟨ad, rfl, hc⟩ := hs.get hlt
      have hc' : w.cell? (ad.add k) = some (.int .i64 xs[k]) := by rw [hc]; simp [intV]
      clear hc
      have hb := right1_any xs[k] w
      rw [hok _ (List.getElem_mem hlt)] at hb
      have HB := Lib.hid hb; clear hb
      have HOK := Lib.hid hok; clear hok
      go_wp2_with (go_at_call 191; refine HB.out.mono ?_; rintro e w' ⟨rfl, rfl⟩)
      go_round
      case rel => exact ⟨k + 1, by omega, by go_num⟩
      case measure => simp [intOf]; omega
    · go_wp2_with fail
      go_ret
      exact ⟨rfl, rfl⟩
theorem contInts_any (A : Option Addr) (c : Nat) (xs : List Int) (w : World) (hs : Sl w [] 1 A xs.length (xs.map intV)) (hm : xs.length ≤ 65536) (hok : ∀ x ∈ xs, isBad x = false) :
    Calls Tryz.prog 189 #[.slice A xs.length c, .func (.func 191) #[] #[]] w fun e w' => e = .returned (.bool false) ∧ w = w' := by
  have HI := Lib.hid (idxInts_any A c xs w hs hm hok)
  clear hok
  go_enter Tryz.func189, Tryz.ntmps189
  go_wp2_with (go_at_call 252; refine HI.out.mono ?_; rintro e w' ⟨rfl, rfl⟩)
  go_ret
  exact ⟨rfl, rfl⟩
theorem idxFuns0 (f : Value) (w : World) :
    Calls Tryz.prog 254 #[.slice none 0 0, f] w fun e w' => e = .returned (.int .i64 (-1)) ∧ w = w' := by
  go_enter Tryz.func254, Tryz.ntmps254
  go_wp2_with fail
  refine wp_loop_rounds 1 ?_
  rw [rounds_succ]
  go_wp2_with fail
  go_ret
  exact ⟨rfl, rfl⟩
theorem contFuns0 (f : Value) (w : World) :
    Calls Tryz.prog 194 #[.slice none 0 0, f] w fun e w' => e = .returned (.bool false) ∧ w = w' := by
  go_enter Tryz.func194, Tryz.ntmps194
  go_wp2_with (go_at_call 254; refine (idxFuns0 _ _).mono ?_; rintro e w' ⟨rfl, rfl⟩)
  go_ret
  exact ⟨rfl, rfl⟩
theorem costRight (k : Int) (w : World) (h1 : 1 ≤ k) (h2 : k ≤ 2147483648) : Calls Tryz.prog 193 #[.int .i64 k] w fun e w' => e = .returned (.bool true) ∧ w = w' := by
  go_enter Tryz.func193, Tryz.ntmps193
  go_wp2
  go_ret
  simp

theorem Sl.bytesWorld (w : World) (F : List Nat) (e : TypeId) (l : List UInt8) (hF : ∀ x ∈ F, x < w.heap.size) : Sl (Lib.bytesWorld w e ⟨l.toArray⟩) F 1 (some ⟨w.heap.size, 0, none⟩) l.length (l.map byteV) := by
  refine ⟨by simp, fun _ => ⟨_, rfl, fun h => by have := hF _ h; dsimp only at this; omega, by rw [Lib.bytesWorld_size]; simp, fun j u hu => ?_⟩⟩
  have hj : j < l.length := by have := (List.getElem?_eq_some_iff.1 hu).1; simpa using this
  rw [add_plain, Nat.zero_add, Lib.bytesWorld_cell w e _ j (by rw [size_mk]; exact hj), toList_mk, getD_lt hj]
  rw [← hu]; simp [hj, byteV]

set_option maxRecDepth 100000 in
set_option maxHeartbeats 1000000 in
theorem wordT (w : World) :
    Calls Tryz.prog 192 #[.string ⟨[116].toArray⟩] w fun e w' => e = .returned (.bool true) ∧ Upd [] w w' := by
  have kc := fun (w : World) => Lib.run_convert_string_bytes (P := Tryz.prog) w 9 37 5 ⟨[116].toArray⟩ Tryz.underlying9 Tryz.underlying37 Tryz.underlying5
  rw [size_mk] at kc
  have KC := Lib.hid kc
  go_enter Tryz.func192, Tryz.ntmps192
  go_wp2_with fail
  obtain ⟨W, hW⟩ : ∃ W, W = Lib.bytesWorld w 5 ⟨[116].toArray⟩ := ⟨_, rfl⟩
  have hS := Sl.bytesWorld w [] 5 [116] (by simp)
  rw [← hW] at hS
  have hu0 : Upd [] w W := by rw [hW]; exact (Upd.refl _ _).bytesWorld _ _
  rw [← hW]
  clear hW
  refine (count1 _ _ _ hS).mono ?_
  rintro e w1 ⟨rfl, hu1⟩
  go_wp2_with fail
  obtain ⟨W2, hW⟩ : ∃ W2, W2 = Lib.bytesWorld w1 5 ⟨[116].toArray⟩ := ⟨_, rfl⟩
  have hS2 := Sl.bytesWorld w1 [] 5 [116] (by simp)
  rw [← hW] at hS2
  have hu2 : Upd [] w1 W2 := by rw [hW]; exact (Upd.refl _ _).bytesWorld _ _
  rw [← hW]
  clear hW kc
  refine (scanNew_any [] _ [116] _ _ hS2 (by decide)).mono ?_
  rintro e w3 ⟨bs, A1, c1, rfl, hbs, hc1, hB, hSl, hA1, hu3⟩
  go_wp2_with fail
  have hw1 := word_any bs _ A1 [116] c1 0 w3 (by decide) (by decide) hc1 hB hSl
  unfold WordPost at hw1
  rw [one_w0] at hw1
  refine hw1.mono ?_
  rintro e w4 ⟨rfl, hu4, hB4⟩
  clear hw1
  go_wp2_with fail
  go_ret
  exact ⟨rfl, (((hu0.then_nil hu1).then_nil hu2).then_nil hu3).then hu4 (by have := hu0.size; have := hu1.size; have := hu2.size; simp; omega)⟩

set_option maxRecDepth 100000 in
set_option maxHeartbeats 1000000 in
theorem right0 (b : Nat) (t : TypeId) (A : Option Addr) (c : Nat) (w : World) (hB : Blk w b t #[.string ⟨[116].toArray⟩, .int .i64 1, .slice A 1 c, .slice none 0 0]) (hs : Sl w [] 1 A 1 [intV 1]) :
    Calls Tryz.prog 106 #[.pointer (some ⟨b, 0, none⟩)] w fun e w' => e = .returned (.int .i64 0) ∧ Upd [] w w' := by
  have h0 := hB.cell 0; have h1 := hB.cell 1; have h2 := hB.cell 2; have h3 := hB.cell 3
  simp at h0 h1 h2 h3
  go_enter Tryz.func106, Tryz.ntmps106
  go_wp2_with fail
  refine (wordT _).mono ?_
  rintro e w1 ⟨rfl, hu1⟩
  have hB1 := hB.upd hu1 (by simp)
  have hs1 := hs.upd hu1
  clear h0 h1 h2 h3
  have h0 := hB1.cell 0; have h1 := hB1.cell 1; have h2 := hB1.cell 2; have h3 := hB1.cell 3
  simp at h0 h1 h2 h3
  go_wp2_with fail
  refine (contInts_any A c [1] w1 hs1 (by decide) (by simp [isBad])).mono ?_
  rintro e w' ⟨rfl, rfl⟩
  go_wp2_with fail
  refine (costRight 1 w1 (by decide) (by decide)).mono ?_
  rintro e w' ⟨rfl, rfl⟩
  go_wp2_with fail
  refine (contFuns0 _ w1).mono ?_
  rintro e w' ⟨rfl, rfl⟩
  go_wp2_with fail
  refine wp_loop_rounds 1 ?_
  rw [rounds_succ]
  go_wp2_with fail
  go_ret
  exact ⟨rfl, hu1⟩

end Go.Proofs.YtmmkeaokhbmgoaaGreatDoor
