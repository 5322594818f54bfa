/- wcsp's reader: ok, wrong, large, word, number. -/
import Derived.Test.YtmmkeaokhbmgoaaGreatDoorS3
import Derived.Test.YtmmkeaokhbmgoaaGreatDoorS4
namespace Go.Proofs.YtmmkeaokhbmgoaaGreatDoor
open Go.RowKit

/-- The reader's numbers: how far it has read, the scan's wrong byte, what was wrong and too large, and where; how many lines were told. -/
structure Rd where
  at_ : Nat
  sb : Int
  bad : Int
  big : Int
  badAt : Int
  bigAt : Int
  told : Int

/-- The reader lies at block br, its scan at bs; the text lies elsewhere. -/
structure RdAt (w : World) (br bs : Nat) (tr ts : TypeId) (A : Option Addr) (c : Nat) (l : List UInt8) (r : Rd) (sh : Value) : Prop where
  rd : Blk w br tr #[.pointer (some ⟨bs, 0, none⟩), .int .i64 r.bad, .int .i64 r.big, .int .i64 r.badAt, .int .i64 r.bigAt, .int .i64 r.told, sh]
  sc : Blk w bs ts #[.slice A l.length c, .int .i64 r.at_, .int .i64 r.sb]
  tx : Sl w [br, bs] 1 A l.length (l.map byteV)
  ne : br ≠ bs
  cap : l.length ≤ c
  len : l.length ≤ 65536
  at_le : r.at_ ≤ l.length

/-- While nothing was wrong the scan has met no wrong byte. -/
def Rd.good (r : Rd) : Prop := r.bad = 0 → r.sb = -1

def rdWrong (r : Rd) (e at_ : Int) : Rd := if r.bad = 0 then { r with bad := e, badAt := at_ } else r
def rdLarge (r : Rd) (is : Bool) (at_ : Int) : Rd := if is = true ∧ r.big = 0 ∧ r.bad = 0 then { r with big := 5, bigAt := at_ } else r
def rdWord (l : List UInt8) (r : Rd) : List UInt8 × Int × Rd :=
  if r.bad ≠ 0 then ([], 0, r) else
  let x := wordR l r.at_
  let e := if x.2.2.1 = 2 then 4 else x.2.2.1
  let r1 := { r with at_ := x.2.2.2.1, sb := x.2.2.2.2 }
  (x.1, x.2.1, if e ≠ 0 then rdWrong r1 e x.2.1 else r1)
def rdNumber (l : List UInt8) (r : Rd) (least most : Int) : Int × Int × Rd :=
  let x := rdWord l r
  if x.2.2.bad ≠ 0 then (0, x.2.1, x.2.2) else
  let n := readN x.1
  if n.2 ≠ 0 ∨ n.1 < least ∨ most < n.1 then (0, x.2.1, rdWrong x.2.2 4 x.2.1) else (n.1, x.2.1, x.2.2)

section
variable {w w' : World} {br bs : Nat} {tr ts : TypeId} {A : Option Addr} {c : Nat} {l : List UInt8} {r : Rd} {sh : Value}
theorem RdAt.upd (h : RdAt w br bs tr ts A c l r sh) {F : List Nat} (hu : Upd F w w') (h1 : br ∉ F) (h2 : bs ∉ F) (h3 : ∀ x ∈ F, x ∈ [br, bs] ∨ w.heap.size ≤ x) : RdAt w' br bs tr ts A c l r sh :=
  ⟨h.rd.upd hu h1, h.sc.upd hu h2, h.tx.upd ((Upd.refl [br, bs] w).then hu h3), h.ne, h.cap, h.len, h.at_le⟩
theorem RdAt.fresh (h : RdAt w br bs tr ts A c l r sh) (hu : Upd [] w w') : RdAt w' br bs tr ts A c l r sh := h.upd hu (by simp) (by simp) (by simp)
end

theorem ok_any {br bs : Nat} {tr ts : TypeId} {A : Option Addr} {c : Nat} {l : List UInt8} {r : Rd} {sh : Value} (w : World) (h : RdAt w br bs tr ts A c l r sh) :
    Calls Tryz.prog 33 #[.pointer (some ⟨br, 0, none⟩)] w fun e w' => e = .returned (.bool (r.bad == 0)) ∧ w = w' := by
  have h1 := h.rd.cell 1
  simp at h1
  go_enter Tryz.func33, Tryz.ntmps33
  go_wp2
  go_ret
  exact ⟨rfl, rfl⟩

theorem wrong_any {br bs : Nat} {tr ts : TypeId} {A : Option Addr} {c : Nat} {l : List UInt8} {r : Rd} {sh : Value} (w : World) (e at_ : Int) (h : RdAt w br bs tr ts A c l r sh) :
    Calls Tryz.prog 36 #[.pointer (some ⟨br, 0, none⟩), .int .i64 e, .int .i64 at_] w fun e' w' => e' = .returned (.tuple #[]) ∧
      Upd [br] w w' ∧ RdAt w' br bs tr ts A c l (rdWrong r e at_) sh := by
  have h1 := h.rd.cell 1; have h3 := h.rd.cell 3
  have f1 := h.rd.froz 1; have f3 := h.rd.froz 3
  simp at h1 h3
  by_cases hb : r.bad = 0
  · have hb' : (r.bad == 0) = true := by simpa using hb
    have HB := Lib.hid hb; clear hb
    go_enter Tryz.func36, Tryz.ntmps36
    go_wp2
    go_end0
    have hu : Upd [br] w ((w.setCell ⟨br, 1, none⟩ (.int .i64 e)).setCell ⟨br, 3, none⟩ (.int .i64 at_)) := ((Upd.refl [br] w).setCell (.inl (by simp)) _).setCell (.inl (by simp)) _
    refine ⟨rfl, hu, ?_⟩
    rw [rdWrong, if_pos HB.out]
    have hc := (h.rd.set 1 (.int .i64 e)).set 3 (.int .i64 at_)
    simp at hc
    exact ⟨hc, h.sc.upd hu (by simpa using h.ne.symm), h.tx.upd (hu.mono (by simp)), h.ne, h.cap, h.len, h.at_le⟩
  · have hb' : (r.bad == 0) = false := by simpa using hb
    go_enter Tryz.func36, Tryz.ntmps36
    go_wp2
    go_end0
    rw [rdWrong, if_neg hb]
    exact ⟨rfl, Upd.refl _ _, h⟩

theorem large_any {br bs : Nat} {tr ts : TypeId} {A : Option Addr} {c : Nat} {l : List UInt8} {r : Rd} {sh : Value} (w : World) (is : Bool) (at_ : Int) (h : RdAt w br bs tr ts A c l r sh) :
    Calls Tryz.prog 31 #[.pointer (some ⟨br, 0, none⟩), .bool is, .int .i64 at_] w fun e' w' => e' = .returned (.tuple #[]) ∧
      Upd [br] w w' ∧ RdAt w' br bs tr ts A c l (rdLarge r is at_) sh := by
  have h1 := h.rd.cell 1; have h2 := h.rd.cell 2; have h4 := h.rd.cell 4
  have f2 := h.rd.froz 2; have f4 := h.rd.froz 4
  simp at h1 h2 h4
  cases is with
  | false =>
    go_enter Tryz.func31, Tryz.ntmps31
    go_wp2
    go_end0
    exact ⟨rfl, Upd.refl _ _, by rw [rdLarge, if_neg (by simp)]; exact h⟩
  | true =>
    by_cases hg : r.big = 0
    · have hg' : (r.big == 0) = true := by simpa using hg
      have HG := Lib.hid hg; clear hg
      by_cases hb : r.bad = 0
      · have hb' : (r.bad == 0) = true := by simpa using hb
        have HB := Lib.hid hb; clear hb
        go_enter Tryz.func31, Tryz.ntmps31
        go_wp2
        go_end0
        have hu : Upd [br] w ((w.setCell ⟨br, 2, none⟩ (.int .i64 5)).setCell ⟨br, 4, none⟩ (.int .i64 at_)) := ((Upd.refl [br] w).setCell (.inl (by simp)) _).setCell (.inl (by simp)) _
        refine ⟨rfl, hu, ?_⟩
        rw [rdLarge, if_pos ⟨rfl, HG.out, HB.out⟩]
        have hc := (h.rd.set 2 (.int .i64 5)).set 4 (.int .i64 at_)
        simp at hc
        exact ⟨hc, h.sc.upd hu (by simpa using h.ne.symm), h.tx.upd (hu.mono (by simp)), h.ne, h.cap, h.len, h.at_le⟩
      · have hb' : (r.bad == 0) = false := by simpa using hb
        go_enter Tryz.func31, Tryz.ntmps31
        go_wp2
        go_end0
        exact ⟨rfl, Upd.refl _ _, by rw [rdLarge, if_neg (fun x => hb x.2.2)]; exact h⟩
    · have hg' : (r.big == 0) = false := by simpa using hg
      go_enter Tryz.func31, Tryz.ntmps31
      go_wp2
      go_end0
      exact ⟨rfl, Upd.refl _ _, by rw [rdLarge, if_neg (fun x => hg x.2.1)]; exact h⟩
theorem rdWrong_good {r : Rd} {e at_ : Int} (h : r.good ∨ e ≠ 0) : (rdWrong r e at_).good := by
  unfold rdWrong
  split
  · rename_i h0
    rcases h with h | h
    · exact fun _ => h h0
    · exact fun h1 => absurd h1 h
  · rename_i h0; exact fun h1 => absurd h1 h0
theorem rdLarge_good {r : Rd} {is : Bool} {at_ : Int} (h : r.good) : (rdLarge r is at_).good := by
  unfold rdLarge
  split
  · exact h
  · exact h
theorem rdWord_good {l : List UInt8} {r : Rd} (h : r.good) : (rdWord l r).2.2.good := by
  unfold rdWord
  split
  · exact h
  · rename_i h0
    dsimp only
    by_cases h1 : (if (wordR l r.at_).2.2.1 = 2 then (4 : Int) else (wordR l r.at_).2.2.1) = 0
    · rw [if_neg (by simpa using h1)]
      intro _
      refine wordR_ok l r.at_ ?_
      intro h2; rw [h2] at h1; simp at h1
    · rw [if_pos h1]
      exact rdWrong_good (.inr h1)
theorem rdNumber_good {l : List UInt8} {r : Rd} {a b : Int} (h : r.good) : (rdNumber l r a b).2.2.good := by
  unfold rdNumber
  dsimp only
  split
  · exact rdWord_good h
  · split
    · exact rdWrong_good (.inl (rdWord_good h))
    · exact rdWord_good h
end Go.Proofs.YtmmkeaokhbmgoaaGreatDoor
