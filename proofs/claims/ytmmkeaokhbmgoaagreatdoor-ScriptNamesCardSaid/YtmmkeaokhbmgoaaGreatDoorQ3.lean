/- The reference's reader: wrong, large, word, number. -/
import Derived.Test.YtmmkeaokhbmgoaaGreatDoorQ1
import Derived.Test.YtmmkeaokhbmgoaaGreatDoorQ2
import Derived.Deep.QuietTactic
import Derived.BigQuiet
namespace Go.Proofs.YtmmkeaokhbmgoaaGreatDoor
open Go.RowKit

/-- The reference's reader: the words that are left; where and how it ends; what was wrong, and too large. -/
structure Xr where
  rest : List Wd
  fin : Int
  finE : Int
  bad : Int
  badAt : Int
  big : Int
  bigAt : Int
  lines : Int

structure XrAt (w : World) (b : Nat) (t : TypeId) (G : List Nat) (r : Xr) (sh : Value) : Prop where
  rd : ∃ A c, Blk w b t #[.slice A r.rest.length c, .int .i64 r.fin, .int .i64 r.finE, .int .i64 r.bad, .int .i64 r.badAt, .int .i64 r.big, .int .i64 r.bigAt, .int .i64 r.lines, sh] ∧
    Sl w (b :: G) 2 A r.rest.length (wdsV r.rest) ∧ r.rest.length ≤ c
  short : ∀ x ∈ r.rest, x.1.length ≤ 65536

theorem XrAt.upd {w w' : World} {b : Nat} {t : TypeId} {G : List Nat} {r : Xr} {sh : Value} (h : XrAt w b t G r sh) {F : List Nat} (hu : Upd F w w') (h1 : b ∉ F) (h3 : ∀ x ∈ F, x ∈ G ∨ w.heap.size ≤ x) : XrAt w' b t G r sh := by
  obtain ⟨⟨A, c, hB, hS, hc⟩, hs⟩ := h
  exact ⟨⟨A, c, hB.upd hu h1, hS.upd ((Upd.refl (b :: G) w).then hu fun x hx => (h3 x hx).imp (fun h => List.mem_cons_of_mem _ h) id), hc⟩, hs⟩
theorem XrAt.fresh {w w' : World} {b : Nat} {t : TypeId} {G : List Nat} {r : Xr} {sh : Value} (h : XrAt w b t G r sh) (hu : Upd [] w w') : XrAt w' b t G r sh := h.upd hu (by simp) (by simp)

def xrWrong (r : Xr) (e at_ : Int) : Xr := if r.bad = 0 then { r with bad := e, badAt := at_ } else r
def xrLarge (r : Xr) (is : Bool) (at_ : Int) : Xr := if is = true ∧ r.big = 0 ∧ r.bad = 0 then { r with big := 5, bigAt := at_ } else r
def xrWord (r : Xr) : Wd × Xr :=
  if r.bad ≠ 0 then (([], 0), r) else
  match r.rest with
  | [] => (([], 0), xrWrong r r.finE r.fin)
  | x :: rest => (x, { r with rest := rest })
def xrNumber (r : Xr) (least most : Int) : Int × Int × Xr :=
  let x := xrWord r
  let n := readN x.1.1
  let r2 := if x.2.bad = 0 ∧ (n.2 ≠ 0 ∨ n.1 < least ∨ most < n.1) then xrWrong x.2 4 x.1.2 else x.2
  if r2.bad ≠ 0 then (0, 0, r2) else (n.1, x.1.2, r2)

theorem xwrong_any {b : Nat} {t : TypeId} {G : List Nat} {r : Xr} {sh : Value} (w : World) (e at_ : Int) (h : XrAt w b t G r sh) :
    Calls Tryz.prog 44 #[.pointer (some ⟨b, 0, none⟩), .int .i64 e, .int .i64 at_] w fun e' w' => e' = .returned (.tuple #[]) ∧
      Upd [b] w w' ∧ XrAt w' b t G (xrWrong r e at_) sh := by
  obtain ⟨⟨A, c, hB, hS, hc⟩, hs⟩ := h
  have h3 := hB.cell 3; have h4 := hB.cell 4
  have f3 := hB.froz 3; have f4 := hB.froz 4
  simp at h3 h4
  by_cases hb : r.bad = 0
  · have hb' : (r.bad == 0) = true := by simpa using hb
    have HB := Lib.hid hb; clear hb
    go_enter Tryz.func44, Tryz.ntmps44
    go_wp2
    go_end0
    have hu : Upd [b] w ((w.setCell ⟨b, 3, none⟩ (.int .i64 e)).setCell ⟨b, 4, none⟩ (.int .i64 at_)) := ((Upd.refl [b] w).setCell (.inl (by simp)) _).setCell (.inl (by simp)) _
    refine ⟨rfl, hu, ?_⟩
    rw [xrWrong, if_pos HB.out]
    have hc2 := (hB.set 3 (.int .i64 e)).set 4 (.int .i64 at_)
    simp at hc2
    exact ⟨⟨A, c, hc2, hS.upd (hu.mono (by simp)), hc⟩, hs⟩
  · have hb' : (r.bad == 0) = false := by simpa using hb
    go_enter Tryz.func44, Tryz.ntmps44
    go_wp2
    go_end0
    rw [xrWrong, if_neg hb]
    exact ⟨rfl, Upd.refl _ _, ⟨A, c, hB, hS, hc⟩, hs⟩

theorem xlarge_any {b : Nat} {t : TypeId} {G : List Nat} {r : Xr} {sh : Value} (w : World) (is : Bool) (at_ : Int) (h : XrAt w b t G r sh) :
    Calls Tryz.prog 41 #[.pointer (some ⟨b, 0, none⟩), .bool is, .int .i64 at_] w fun e' w' => e' = .returned (.tuple #[]) ∧
      Upd [b] w w' ∧ XrAt w' b t G (xrLarge r is at_) sh := by
  have h' := h
  obtain ⟨⟨A, c, hB, hS, hc⟩, hs⟩ := h
  have h3 := hB.cell 3; have h5 := hB.cell 5; have h6 := hB.cell 6
  have f5 := hB.froz 5; have f6 := hB.froz 6
  simp at h3 h5 h6
  cases is with
  | false =>
    go_enter Tryz.func41, Tryz.ntmps41
    go_wp2
    go_end0
    exact ⟨rfl, Upd.refl _ _, by rw [xrLarge, if_neg (by simp)]; exact h'⟩
  | true =>
    by_cases hg : r.big = 0
    · have hg' : (r.big == 0) = true := by simpa using hg
      have HG := Lib.hid hg; clear hg
      by_cases hb : r.bad = 0
      · have hb' : (r.bad == 0) = true := by simpa using hb
        have HB := Lib.hid hb; clear hb
        go_enter Tryz.func41, Tryz.ntmps41
        go_wp2
        go_end0
        have hu : Upd [b] w ((w.setCell ⟨b, 5, none⟩ (.int .i64 5)).setCell ⟨b, 6, none⟩ (.int .i64 at_)) := ((Upd.refl [b] w).setCell (.inl (by simp)) _).setCell (.inl (by simp)) _
        refine ⟨rfl, hu, ?_⟩
        rw [xrLarge, if_pos ⟨rfl, HG.out, HB.out⟩]
        have hc2 := (hB.set 5 (.int .i64 5)).set 6 (.int .i64 at_)
        simp at hc2
        exact ⟨⟨A, c, hc2, hS.upd (hu.mono (by simp)), hc⟩, hs⟩
      · have hb' : (r.bad == 0) = false := by simpa using hb
        go_enter Tryz.func41, Tryz.ntmps41
        go_wp2
        go_end0
        exact ⟨rfl, Upd.refl _ _, by rw [xrLarge, if_neg (fun x => hb x.2.2)]; exact h'⟩
    · have hg' : (r.big == 0) = false := by simpa using hg
      go_enter Tryz.func41, Tryz.ntmps41
      go_wp2
      go_end0
      exact ⟨rfl, Upd.refl _ _, by rw [xrLarge, if_neg (fun x => hg x.2.1)]; exact h'⟩

theorem xrWrong_rest (r : Xr) (e a : Int) : (xrWrong r e a).rest = r.rest := by unfold xrWrong; split <;> rfl
theorem XrAt.upd0 {w w' : World} {b : Nat} {t : TypeId} {G : List Nat} {r : Xr} {sh : Value} (h : XrAt w b t G r sh) (h0 : r.rest = []) {F : List Nat} (hu : Upd F w w') (h1 : b ∉ F) : XrAt w' b t G r sh := by
  obtain ⟨⟨A, c, hB, hS, hc⟩, hs⟩ := h
  refine ⟨⟨A, c, hB.upd hu h1, ?_, hc⟩, hs⟩
  rw [h0]
  exact Sl.nil _ _ _ _
def XWordPost (b : Nat) (t : TypeId) (G : List Nat) (r : Xr) (sh : Value) (w : World) (e : Ending) (w' : World) : Prop :=
  e = .returned (.agg #[.string ⟨(xrWord r).1.1.toArray⟩, .int .i64 (xrWord r).1.2]) ∧ Upd [b] w w' ∧ XrAt w' b t G (xrWord r).2 sh

set_option maxRecDepth 100000 in
set_option maxHeartbeats 1000000 in
theorem xword_any {b : Nat} {t : TypeId} {G : List Nat} {r : Xr} {sh : Value} (w : World) (h : XrAt w b t G r sh) :
    Calls Tryz.prog 40 #[.pointer (some ⟨b, 0, none⟩)] w (XWordPost b t G r sh w) := by
  have h' := h
  obtain ⟨⟨A, c, hB, hS, hc⟩, hs⟩ := h
  have h0 := hB.cell 0; have h1 := hB.cell 1; have h2 := hB.cell 2; have h3 := hB.cell 3
  have f0 := hB.froz 0
  have hbl := hB.lt
  simp at h0 h1 h2 h3
  by_cases hb : r.bad = 0
  · have hb' : (r.bad != 0) = false := by simpa using hb
    have HB := Lib.hid hb; clear hb
    obtain ⟨rest, fin, finE, bad, badAt, big, bigAt, lines⟩ := r
    dsimp only at *
    cases rest with
    | nil =>
      obtain ⟨W1, hW1⟩ : ∃ W1, W1 = w.alloc (.cells #[.string ⟨#[]⟩, .int .i64 0] 114) := ⟨_, rfl⟩
      have hu0 : Upd [] w W1 := by rw [hW1]; exact (Upd.refl [] w).alloc _
      have hR1 := h'.fresh (hu0.drew)
      have HR1 := Lib.hid hR1; clear hR1
      have hB1 := hB.upd hu0 (by simp)
      have q1 := hB1.cell 1; have q2 := hB1.cell 2
      simp only [List.getElem?_toArray, List.getElem?_cons_succ, List.getElem?_cons_zero] at q1 q2
      have hBl0 : Blk W1 w.heap.size 114 #[.string ⟨#[]⟩, .int .i64 0] := by rw [hW1]; exact Blk.new _ _ _
      have HW1 := Lib.hid hW1; clear hW1
      go_enter Tryz.func40, Tryz.ntmps40
      go_wp2
      rw [← HW1.out]
      go_still_tail 9, (by kernel_rfl)
      go_wp2_with fail
      refine (xwrong_any _ _ _ HR1.out).mono ?_
      rintro e w2 ⟨rfl, hu2, hR2⟩
      have hBl := hBl0.upd (F := [b]) (((Upd.refl [b] _).drew).trans hu2) (by simp; omega)
      have hl := hBl.lt
      have g0 := hBl.cell 0; have g1 := hBl.cell 1
      have k0 := hBl.froz 0; have k1 := hBl.froz 1
      simp at g0 g1
      have hu1 : Upd [b] w W1.drew := (hu0.mono (by simp)).drew
      go_wp2
      refine bodyPost_ret (v := .agg #[.string ⟨#[]⟩, .int .i64 0]) (by simp [results, Tryz.results40, go_sem, g0, g1]) rfl ?_
      unfold XWordPost
      have e : xrWord ⟨[], fin, finE, bad, badAt, big, bigAt, lines⟩ = (([], 0), xrWrong ⟨[], fin, finE, bad, badAt, big, bigAt, lines⟩ finE fin) := by
        unfold xrWord; rw [if_neg (by simpa using HB.out)]
      rw [e]
      refine ⟨rfl, ?_, ?_⟩
      · exact ((hu1.trans hu2).setCell (.inr (by simp)) _).setCell (.inr (by simp)) _
      · exact hR2.upd0 (xrWrong_rest _ _ _) (F := [w.heap.size]) (((Upd.refl _ _).setCell (.inl (by simp)) _).setCell (.inl (by simp)) _) (by simp; omega)
    | cons x rest =>
      obtain ⟨g, o, rfl, hgF, hgl, hcell⟩ := hS.spot (by simp) (by omega)
      have hx0 := hcell 0 (.string ⟨x.1.toArray⟩) (by simp [wdsV, wdV])
      have hx1 := hcell 1 (.int .i64 x.2) (by simp [wdsV, wdV])
      rw [Nat.add_zero] at hx0
      have hgF' := hgF
      have hgb : g ≠ b := fun e => hgF (by rw [e]; simp)
      have hfin : ∀ (o' c' : Nat), (0 < rest.length → o' = o + 2) → rest.length ≤ c' → XWordPost b t G ⟨x :: rest, fin, finE, bad, badAt, big, bigAt, lines⟩ sh w (.returned (.agg #[.string ⟨x.1.toArray⟩, .int .i64 x.2]))
          (((w.setCell ⟨b, 0, none⟩ (.slice (some ⟨g, o', none⟩) rest.length c')).alloc (.cells #[.string ⟨x.1.toArray⟩, .int .i64 x.2] 114)).alloc (.cells #[.string ⟨x.1.toArray⟩, .int .i64 x.2] 114)) := by
        intro o' c' ho' hc'
        have e : xrWord ⟨x :: rest, fin, finE, bad, badAt, big, bigAt, lines⟩ = (x, ⟨rest, fin, finE, bad, badAt, big, bigAt, lines⟩) := by
          unfold xrWord; rw [if_neg (by simpa using HB.out)]
        unfold XWordPost
        rw [e]
        have hu := (((Upd.refl [b] w).setCell (p := ⟨b, 0, none⟩) (.inl (by simp)) (.slice (some ⟨g, o', none⟩) rest.length c')).alloc (.cells #[.string ⟨x.1.toArray⟩, .int .i64 x.2] 114)).alloc (.cells #[.string ⟨x.1.toArray⟩, .int .i64 x.2] 114)
        refine ⟨rfl, hu, ⟨⟨some ⟨g, o', none⟩, c', ?_, ?_, hc'⟩, fun y hy => hs y (List.mem_cons_of_mem _ hy)⟩⟩
        · have h9 := ((hB.set 0 (.slice (some ⟨g, o', none⟩) rest.length c')).alloc (.cells #[.string ⟨x.1.toArray⟩, .int .i64 x.2] 114)).alloc (.cells #[.string ⟨x.1.toArray⟩, .int .i64 x.2] 114)
          simpa using h9
        · refine ⟨wdsV_len rest, fun hn => ⟨⟨g, o', none⟩, rfl, hgF', Nat.lt_of_lt_of_le hgl hu.size, fun j u hj => ?_⟩⟩
          have h1 := hcell (j + 2) u (by simp [wdsV, wdV] at hj ⊢; exact hj)
          have e2 : o' + j = o + (j + 2) := by have := ho' hn; omega
          rw [add_plain, e2]
          exact hu.cell h1 (by simpa using hgb)
      have HFIN := Lib.hid hfin; clear hfin hcell hgF' hgF
      have hc2 : rest.length + 1 ≤ c := by simpa using hc
      go_enter Tryz.func40, Tryz.ntmps40
      go_wp2
      all_goals
        refine bodyPost_ret (v := .agg #[.string ⟨x.1.toArray⟩, .int .i64 x.2]) (by simp [results, Tryz.results40, go_sem]) rfl ?_
      · exact HFIN.out o 0 (by have : c = 1 := by assumption
                               omega) (by have : c = 1 := by assumption
                                          omega)
      · exact HFIN.out (o + 2) (c - 1) (fun _ => rfl) (by omega)
  · have hb' : (r.bad != 0) = true := by simpa using hb
    go_enter Tryz.func40, Tryz.ntmps40
    go_wp2
    refine bodyPost_ret (v := .agg #[.string ⟨#[]⟩, .int .i64 0]) (by simp [results, Tryz.results40, go_sem]) rfl ?_
    unfold XWordPost
    have e : xrWord r = (([], 0), r) := by unfold xrWord; rw [if_pos hb]
    rw [e]
    exact ⟨rfl, (Upd.refl _ _).alloc _, h'.fresh ((Upd.refl _ _).alloc _)⟩
theorem xrWord_short (r : Xr) (h : ∀ x ∈ r.rest, x.1.length ≤ 65536) : (xrWord r).1.1.length ≤ 65536 := by
  unfold xrWord
  split
  · simp
  · split
    · simp
    · rename_i x rest e; exact h x (by rw [e]; simp)

def XNumPost (b : Nat) (t : TypeId) (G : List Nat) (r : Xr) (sh : Value) (least most : Int) (w : World) (e : Ending) (w' : World) : Prop :=
  e = .returned (.tuple #[.int .i64 (xrNumber r least most).1, .int .i64 (xrNumber r least most).2.1]) ∧ Upd [b] w w' ∧ XrAt w' b t G (xrNumber r least most).2.2 sh

set_option maxRecDepth 100000 in
set_option maxHeartbeats 1000000 in
theorem xnumber_any {b : Nat} {t : TypeId} {G : List Nat} {r : Xr} {sh : Value} (w : World) (least most : Int) (h : XrAt w b t G r sh) :
    Calls Tryz.prog 42 #[.pointer (some ⟨b, 0, none⟩), .int .i64 least, .int .i64 most] w (XNumPost b t G r sh least most w) := by
  have hwd := xword_any w h
  have hlen := xrWord_short r h.short
  obtain ⟨x, hx⟩ : ∃ x, x = xrWord r := ⟨_, rfl⟩
  unfold XWordPost at hwd
  have hn : xrNumber r least most = (let r2 := if x.2.bad = 0 ∧ ((readN x.1.1).2 ≠ 0 ∨ (readN x.1.1).1 < least ∨ most < (readN x.1.1).1) then xrWrong x.2 4 x.1.2 else x.2
      if r2.bad ≠ 0 then (0, 0, r2) else ((readN x.1.1).1, x.1.2, r2)) := by rw [hx]; rfl
  rw [← hx] at hwd hlen
  clear hx
  have HN := Lib.hid hn; clear hn
  have HWD := Lib.hid hwd; clear hwd
  obtain ⟨⟨wd, pl⟩, r1⟩ := x
  dsimp only at HN hlen HWD
  have hbw : b < w.heap.size := by obtain ⟨⟨A, c, hB, _⟩, _⟩ := h; exact hB.lt
  go_enter Tryz.func42, Tryz.ntmps42
  go_wp2_with fail
  refine HWD.out.mono ?_
  rintro e w1 ⟨rfl, hu1, hR1⟩
  go_wp2_with fail
  refine (rread_any wd _ hlen).mono ?_
  rintro e w2 ⟨rfl, hu2⟩
  obtain ⟨v, er, hve⟩ : ∃ v er, readN wd = (v, er) := ⟨_, _, rfl⟩
  rw [hve]
  rw [hve] at HN
  dsimp only at HN ⊢
  have hua : Upd [] w1 w2 := ((Upd.refl [] w1).alloc _).then_nil hu2
  have hR2 := hR1.fresh hua
  have hu3 : Upd [b] w w2 := hu1.then_nil hua
  have hBl2 := (Blk.new w1 114 #[.string ⟨wd.toArray⟩, .int .i64 pl]).upd hu2 (by simp)
  have g1 := hBl2.cell 1
  obtain ⟨⟨A, c, hB, hS, hc⟩, hs⟩ := hR2
  have hR2 : XrAt w2 b t G r1 sh := ⟨⟨A, c, hB, hS, hc⟩, hs⟩
  have h3 := hB.cell 3
  simp at g1 h3
  clear hve hR1 hu1 hu2 hua hB hS hc hs hBl2 HWD hlen
  by_cases hb : r1.bad = 0
  · have hb' : (r1.bad == 0) = true := by simpa using hb
    have hb2 : (r1.bad != 0) = false := by simpa using hb
    have HB := Lib.hid hb; clear hb
    by_cases hbadn : er ≠ 0 ∨ v < least ∨ most < v
    · have hn1 : xrNumber r least most = (0, 0, xrWrong r1 4 pl) := by
        have c1 : r1.bad = 0 ∧ (er ≠ 0 ∨ v < least ∨ most < v) := ⟨HB.out, hbadn⟩
        have c2 : (xrWrong r1 4 pl).bad ≠ 0 := by rw [xrWrong, if_pos HB.out]; show (4 : Int) ≠ 0; decide
        rw [HN.out]; simp only [if_pos c1, if_pos c2]
      have HN1 := Lib.hid hn1; clear hn1 HN
      have hcases : (er ≠ 0) ∨ (er = 0 ∧ v < least) ∨ (er = 0 ∧ ¬ v < least ∧ most < v) := by omega
      clear hbadn
      have hw4 := xwrong_any w2 4 pl hR2
      have HW4 := Lib.hid hw4; clear hw4
      have tail : ∀ (w3 : World), Upd [b] w2 w3 → XrAt w3 b t G (xrWrong r1 4 pl) sh → w3.cell? ⟨b, 3, none⟩ = some (.int .i64 4) := by
        intro w3 _ hR3
        obtain ⟨⟨A, c, hB, _⟩, _⟩ := hR3
        have := hB.cell 3
        rw [xrWrong, if_pos HB.out] at this
        simpa using this
      have TAIL := Lib.hid tail; clear tail
      rcases hcases with he | ⟨he, hlo⟩ | ⟨he, hlo, hhi⟩
      · have he' : (er != 0) = true := by simpa using he
        clear he
        go_wp2_with fail
        refine HW4.out.mono ?_
        rintro e w3 ⟨rfl, hu4, hR4⟩
        have h3' := TAIL.out w3 hu4 hR4
        go_wp2_with fail
        go_ret2
        unfold XNumPost
        rw [HN1.out]
        exact ⟨rfl, hu3.trans hu4, hR4⟩
      all_goals
        have he' : (er != 0) = false := by simpa using he
        clear he
        go_wp2_with fail
        refine HW4.out.mono ?_
        rintro e w3 ⟨rfl, hu4, hR4⟩
        have h3' := TAIL.out w3 hu4 hR4
        go_wp2_with fail
        go_ret2
        unfold XNumPost
        rw [HN1.out]
        exact ⟨rfl, hu3.trans hu4, hR4⟩
    · have hn1 : xrNumber r least most = (v, pl, r1) := by
        have c1 : ¬ (r1.bad = 0 ∧ (er ≠ 0 ∨ v < least ∨ most < v)) := fun h => hbadn h.2
        have c2 : ¬ (r1.bad ≠ 0) := by simpa using HB.out
        rw [HN.out]; simp only [if_neg c1, if_neg c2]
      have HN1 := Lib.hid hn1; clear hn1 HN
      have he' : (er != 0) = false := by simp; omega
      have hlo : ¬ v < least := by omega
      have hhi : ¬ most < v := by omega
      clear hbadn
      go_wp2_with fail
      go_quiet (fail)
      go_wp2_with fail
      go_ret2
      unfold XNumPost
      rw [HN1.out]
      exact ⟨rfl, hu3.drewN _, hR2.fresh ((Upd.refl [] _).drewN _)⟩
  · have hb' : (r1.bad == 0) = false := by simpa using hb
    have hb2 : (r1.bad != 0) = true := by simpa using hb
    have hn1 : xrNumber r least most = (0, 0, r1) := by
      have c1 : ¬ (r1.bad = 0 ∧ (er ≠ 0 ∨ v < least ∨ most < v)) := fun h => hb h.1
      rw [HN.out]; simp only [if_neg c1, if_pos hb]
    have HN1 := Lib.hid hn1; clear hn1 HN
    go_wp2_with fail
    go_ret2
    unfold XNumPost
    rw [HN1.out]
    exact ⟨rfl, hu3, hR2⟩
end Go.Proofs.YtmmkeaokhbmgoaaGreatDoor
