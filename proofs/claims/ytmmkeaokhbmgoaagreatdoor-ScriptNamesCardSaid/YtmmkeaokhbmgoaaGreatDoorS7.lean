/- bytes.Clone, slices.Clone of bytes, of ints, of int64s; scan.New; wcsp.ints. -/
import Derived.Test.YtmmkeaokhbmgoaaGreatDoorS6
import Derived.Test.YtmmkeaokhbmgoaaGreatDoorT1
namespace Go.Proofs.YtmmkeaokhbmgoaaGreatDoor
open Go.RowKit

/-- The result is a row of new memory. -/
def FreshRow (t : TypeId) (size n : Nat) (xs : List Value) (w : World) (e : Ending) (w' : World) : Prop :=
  ∃ v, e = .returned v ∧ w'.ownsRow w.heap.size t size v n xs ∧ Upd [] w w'

theorem bytes_one (l : List UInt8) : ∀ u ∈ l.map byteV, u.oneCell' = true := by intro u hu; simp [byteV] at hu; obtain ⟨x, _, rfl⟩ := hu; rfl
set_option maxHeartbeats 400000 in
theorem bytesClone_any (F : List Nat) (A : Option Addr) (n c : Nat) (xs : List Value) (w : World) (hs : Sl w F 1 A n xs) (h1 : ∀ u ∈ xs, u.oneCell' = true) (hm : n ≤ 65536) :
    Calls Tryz.prog 94 #[.slice A n c] w (FreshRow 5 1 n xs w) := by
  have hnil := fun (w : World) (a : Option Addr) (n c : Nat) => Lib.run_eql_slice_nil (P := Tryz.prog) w 37 5 a n c 0 0 Tryz.underlying37
  cases A with
  | none =>
    obtain rfl : n = 0 := by
      rcases Nat.eq_zero_or_pos n with h | h
      · exact h
      · obtain ⟨ad, h, _⟩ := hs.2 h; cases h
    obtain rfl : xs = [] := List.eq_nil_of_length_eq_zero (by simpa using hs.1)
    clear h1 hm hs
    go_enter Tryz.func94, Tryz.ntmps94
    go_wp2
    go_ret
    exact ⟨_, rfl, World.ownsRow_nil _ _ _ _, Upd.refl _ _⟩
  | some ad =>
    have H1 := Lib.hid h1; clear h1
    go_enter Tryz.func94, Tryz.ntmps94
    go_wp2_with (at_builtin; refine wpList_append_sl rfl _ _ rfl ty_bytes w.heap.size _ 0 [] rfl (World.ownsRow_made w #[] 0 (Nat.le_refl _) (by decide) rfl) F (some ad) n c xs rfl (hs.alloc _) H1.out (by unfold maxLen; omega) (by omega) (by simp) ?_; intro v' w1 hown hg hb _)
    go_ret
    refine ⟨v', rfl, by simpa using hown, ((Upd.refl [] w).alloc _).grown hg ?_⟩
    intro k hk
    cases hk
    exact .inr (Nat.le_refl _)

set_option maxHeartbeats 400000 in
theorem cloneBytes_any (F : List Nat) (A : Option Addr) (n c : Nat) (xs : List Value) (w : World) (hs : Sl w F 1 A n xs) (h1 : ∀ u ∈ xs, u.oneCell' = true) (hm : n ≤ 65536) :
    Calls Tryz.prog 10 #[.slice A n c] w (FreshRow 5 1 n xs w) := by
  have hnil := fun (w : World) (a : Option Addr) (n c : Nat) => Lib.run_eql_slice_nil (P := Tryz.prog) w 37 5 a n c 0 0 Tryz.underlying37
  cases A with
  | none =>
    obtain rfl : n = 0 := by
      rcases Nat.eq_zero_or_pos n with h | h
      · exact h
      · obtain ⟨ad, h, _⟩ := hs.2 h; cases h
    obtain rfl : xs = [] := List.eq_nil_of_length_eq_zero (by simpa using hs.1)
    clear h1 hm hs
    go_enter Tryz.func10, Tryz.ntmps10
    go_wp2
    go_ret
    exact ⟨_, rfl, World.ownsRow_nil _ _ _ _, Upd.refl _ _⟩
  | some ad =>
    have H1 := Lib.hid h1; clear h1
    go_enter Tryz.func10, Tryz.ntmps10
    go_wp2_with (at_builtin; refine wpList_append_sl rfl _ _ rfl ty_bytes w.heap.size _ 0 [] rfl (World.ownsRow_made w #[] 0 (Nat.le_refl _) (by decide) rfl) F (some ad) n c xs rfl (hs.alloc _) H1.out (by unfold maxLen; omega) (by omega) (by simp) ?_; intro v' w1 hown hg hb _)
    go_ret
    refine ⟨v', rfl, by simpa using hown, ((Upd.refl [] w).alloc _).grown hg ?_⟩
    intro k hk
    cases hk
    exact .inr (Nat.le_refl _)

set_option maxHeartbeats 400000 in
theorem cloneInts_any (F : List Nat) (A : Option Addr) (n c : Nat) (xs : List Value) (w : World) (hs : Sl w F 1 A n xs) (h1 : ∀ u ∈ xs, u.oneCell' = true) (hm : n ≤ 65536) :
    Calls Tryz.prog 121 #[.slice A n c] w (FreshRow 3 1 n xs w) := by
  have hnil := fun (w : World) (a : Option Addr) (n c : Nat) => Lib.run_eql_slice_nil (P := Tryz.prog) w 27 3 a n c 0 0 Tryz.underlying27
  cases A with
  | none =>
    obtain rfl : n = 0 := by
      rcases Nat.eq_zero_or_pos n with h | h
      · exact h
      · obtain ⟨ad, h, _⟩ := hs.2 h; cases h
    obtain rfl : xs = [] := List.eq_nil_of_length_eq_zero (by simpa using hs.1)
    clear h1 hm hs
    go_enter Tryz.func121, Tryz.ntmps121
    go_wp2
    go_ret
    exact ⟨_, rfl, World.ownsRow_nil _ _ _ _, Upd.refl _ _⟩
  | some ad =>
    have H1 := Lib.hid h1; clear h1
    go_enter Tryz.func121, Tryz.ntmps121
    go_wp2_with (at_builtin; refine wpList_append_sl rfl _ _ rfl ty_ints w.heap.size _ 0 [] rfl (World.ownsRow_made w #[] 0 (Nat.le_refl _) (by decide) rfl) F (some ad) n c xs rfl (hs.alloc _) H1.out (by unfold maxLen; omega) (by omega) (by simp) ?_; intro v' w1 hown hg hb _)
    go_ret
    refine ⟨v', rfl, by simpa using hown, ((Upd.refl [] w).alloc _).grown hg ?_⟩
    intro k hk
    cases hk
    exact .inr (Nat.le_refl _)

set_option maxHeartbeats 400000 in
theorem cloneInt64s_any (F : List Nat) (A : Option Addr) (n c : Nat) (xs : List Value) (w : World) (hs : Sl w F 1 A n xs) (h1 : ∀ u ∈ xs, u.oneCell' = true) (hm : n ≤ 65536) :
    Calls Tryz.prog 126 #[.slice A n c] w (FreshRow 2 1 n xs w) := by
  have hnil := fun (w : World) (a : Option Addr) (n c : Nat) => Lib.run_eql_slice_nil (P := Tryz.prog) w 51 2 a n c 0 0 Tryz.underlying51
  cases A with
  | none =>
    obtain rfl : n = 0 := by
      rcases Nat.eq_zero_or_pos n with h | h
      · exact h
      · obtain ⟨ad, h, _⟩ := hs.2 h; cases h
    obtain rfl : xs = [] := List.eq_nil_of_length_eq_zero (by simpa using hs.1)
    clear h1 hm hs
    go_enter Tryz.func126, Tryz.ntmps126
    go_wp2
    go_ret
    exact ⟨_, rfl, World.ownsRow_nil _ _ _ _, Upd.refl _ _⟩
  | some ad =>
    have H1 := Lib.hid h1; clear h1
    go_enter Tryz.func126, Tryz.ntmps126
    go_wp2_with (at_builtin; refine wpList_append_sl rfl _ _ rfl ty_int64s w.heap.size _ 0 [] rfl (World.ownsRow_made w #[] 0 (Nat.le_refl _) (by decide) rfl) F (some ad) n c xs rfl (hs.alloc _) H1.out (by unfold maxLen; omega) (by omega) (by simp) ?_; intro v' w1 hown hg hb _)
    go_ret
    refine ⟨v', rfl, by simpa using hown, ((Upd.refl [] w).alloc _).grown hg ?_⟩
    intro k hk
    cases hk
    exact .inr (Nat.le_refl _)

def ScanNewPost (l : List UInt8) (w : World) (e : Ending) (w' : World) : Prop :=
  ∃ b A c, e = .returned (.pointer (some ⟨b, 0, none⟩)) ∧ w.heap.size ≤ b ∧ l.length ≤ c ∧ Blk w' b 186 #[.slice A l.length c, .int .i64 0, .int .i64 (-1)] ∧ Sl w' [b] 1 A l.length (l.map byteV) ∧ (∀ ad, A = some ad → w.heap.size ≤ ad.block) ∧ Upd [] w w'

set_option maxHeartbeats 400000 in
theorem scanNew_any (F : List Nat) (A : Option Addr) (l : List UInt8) (c : Nat) (w : World) (hs : Sl w F 1 A l.length (l.map byteV)) (hm : l.length ≤ 65536) :
    Calls Tryz.prog 29 #[.slice A l.length c] w (ScanNewPost l w) := by
  go_enter Tryz.func29, Tryz.ntmps29
  go_wp2_with (go_at_call 94; refine (bytesClone_any F A l.length c _ w hs (bytes_one l) hm).mono ?_; rintro e w1 ⟨v, rfl, hown, hu⟩; obtain ⟨A1, c1, rfl, hc1⟩ := own_form hown)
  go_ret
  have hB := Blk.new w1 186 #[.slice A1 l.length c1, .int .i64 0, .int .i64 (-1)]
  refine ⟨w1.heap.size, A1, c1, rfl, hu.size, hc1, hB, ?_, ?_, hu.alloc _⟩
  · have h1 := (Sl.of_own [] hown (by simp)).alloc (.cells #[.slice A1 l.length c1, .int .i64 0, .int .i64 (-1)] 186)
    refine ⟨h1.1, fun hn => ?_⟩
    obtain ⟨ad, h2, h3, h4, h5⟩ := (Sl.of_own [] hown (by simp)).2 hn
    obtain ⟨ad', h2', h3', h4', h5'⟩ := h1.2 hn
    cases h2.symm.trans h2'
    exact ⟨ad, h2, by simp; omega, h4', h5'⟩
  · intro ad hA
    subst hA
    exact (own_lt hown _ rfl).1
end Go.Proofs.YtmmkeaokhbmgoaaGreatDoor
