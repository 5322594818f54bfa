/- The reference's Words: all words of a text, and the first wrong byte. -/
import Derived.Test.YtmmkeaokhbmgoaaGreatDoorS2
import Derived.Test.YtmmkeaokhbmgoaaGreatDoorS4
import Derived.Test.YtmmkeaokhbmgoaaGreatDoorT1
import Derived.StillTailTactics
namespace Go.Proofs.YtmmkeaokhbmgoaaGreatDoor
open Go.RowKit

abbrev Wd := List UInt8 × Int
def addByte (out : List Wd) (b : UInt8) : List Wd :=
  match out.getLast? with
  | some x => out.dropLast ++ [(x.1 ++ [b], x.2)]
  | none => out
/-- The reference's loop, from the byte k on. -/
def wordsFrom (l : List UInt8) (k : Nat) (out : List Wd) (op : Bool) : List Wd × Int :=
  if h : k < l.length then
    if btB l[k].toNat then wordsFrom l (k + 1) out false
    else if inB l[k].toNat then wordsFrom l (k + 1) (addByte (if op then out else out ++ [([], (k : Int))]) l[k]) true
    else (if op then out.dropLast else out, k)
  else (out, -1)
termination_by l.length - k
def wdV (x : Wd) : List Value := [.string ⟨x.1.toArray⟩, .int .i64 x.2]
def wdsV (out : List Wd) : List Value := out.flatMap wdV
theorem wdsV_len (out : List Wd) : (wdsV out).length = out.length * 2 := by
  induction out with
  | nil => rfl
  | cons x out ih => simp [wdsV, wdV] at ih ⊢; omega
theorem wdsV_append (a b : List Wd) : wdsV (a ++ b) = wdsV a ++ wdsV b := by simp [wdsV]
theorem wdsV_take (out : List Wd) (m : Nat) : (wdsV out).take (m * 2) = wdsV (out.take m) := by
  induction out generalizing m with
  | nil => simp [wdsV]
  | cons x out ih =>
    cases m with
    | zero => simp [wdsV]
    | succ m =>
      have := ih m
      simp only [wdsV] at this ⊢
      rw [List.take_succ_cons, List.flatMap_cons, List.flatMap_cons, List.take_append]
      rw [List.take_of_length_le (by simp [wdV]; omega)]
      have e : (m + 1) * 2 - (wdV x).length = m * 2 := by simp [wdV]; omega
      rw [e, this]
theorem wdsV_get (a : List Wd) (x : Wd) : (wdsV (a ++ [x]))[a.length * 2]? = some (.string ⟨x.1.toArray⟩) := by
  rw [wdsV_append, List.getElem?_append_right (by rw [wdsV_len]; omega), wdsV_len]; simp [wdsV, wdV]
theorem wdsV_set (a : List Wd) (x : Wd) (s : List UInt8) : (wdsV (a ++ [x])).set (a.length * 2) (.string ⟨s.toArray⟩) = wdsV (a ++ [(s, x.2)]) := by
  rw [wdsV_append, wdsV_append, List.set_append, if_neg (by rw [wdsV_len]; omega), wdsV_len]; simp [wdsV, wdV]
theorem snoc_of {out : List Wd} (h : 0 < out.length) : ∃ a x, out = a ++ [x] := by
  refine ⟨out.dropLast, out.getLast (by intro e; subst e; simp at h), ?_⟩
  exact (List.dropLast_concat_getLast _).symm
theorem addByte_snoc (a : List Wd) (x : Wd) (b : UInt8) : addByte (a ++ [x]) b = a ++ [(x.1 ++ [b], x.2)] := by simp [addByte]
theorem wordsFrom_bt {l : List UInt8} {k : Nat} (h : k < l.length) (out : List Wd) (op : Bool) (hb : btB l[k].toNat = true) : wordsFrom l k out op = wordsFrom l (k + 1) out false := by
  rw [wordsFrom]; simp [h, hb]
theorem wordsFrom_in {l : List UInt8} {k : Nat} (h : k < l.length) (out : List Wd) (op : Bool) (hb : btB l[k].toNat = false) (hi : inB l[k].toNat = true) :
    wordsFrom l k out op = wordsFrom l (k + 1) (addByte (if op then out else out ++ [([], (k : Int))]) l[k]) true := by
  rw [wordsFrom]; simp [h, hb, hi]
theorem wordsFrom_bad {l : List UInt8} {k : Nat} (h : k < l.length) (out : List Wd) (op : Bool) (hb : btB l[k].toNat = false) (hi : inB l[k].toNat = false) :
    wordsFrom l k out op = (if op then out.dropLast else out, (k : Int)) := by
  rw [wordsFrom]; simp [h, hb, hi]
theorem wordsFrom_end {l : List UInt8} {k : Nat} (h : ¬ k < l.length) (out : List Wd) (op : Bool) : wordsFrom l k out op = (out, -1) := by
  rw [wordsFrom]; simp [h]

/-- What the loop's variables hold: the words so far, in a row of the call's own. -/
def WordsRel (l : List UInt8) (B : Nat) (v : Value) (out : List Wd) (op : Bool) (k : Nat) (w wr : World) : Prop :=
  wr.ownsRow B 114 2 v out.length (wdsV out) ∧ Upd [] w wr ∧ wordsFrom l 0 [] false = wordsFrom l k out op ∧ (op = true → 0 < out.length) ∧ out.length ≤ k ∧ (∀ x ∈ out, x.1.length ≤ k)
def WordsPost (l : List UInt8) (w : World) (e : Ending) (w' : World) : Prop :=
  ∃ v, e = .returned (.tuple #[v, .int .i64 (wordsFrom l 0 [] false).2]) ∧ w'.ownsRow w.heap.size 114 2 v (wordsFrom l 0 [] false).1.length (wdsV (wordsFrom l 0 [] false).1) ∧ Upd [] w w'

set_option maxRecDepth 100000 in
set_option maxHeartbeats 2000000 in
theorem words_any (A : Option Addr) (l : List UInt8) (c : Nat) (w : World) (hs : Sl w [] 1 A l.length (l.map byteV)) (hm : l.length ≤ 65536) (hcap : l.length ≤ c) :
    Calls Tryz.prog 39 #[.slice A l.length c] w (WordsPost l w) := by
  go_enter Tryz.func39, Tryz.ntmps39
  go_wp2_with fail
  go_loopw [10, 4, 5] (fun i v o wr => ∃ (k : Nat) (out : List Wd) (op : Bool), k ≤ l.length ∧ i = .int .i64 k ∧ o = .bool op ∧ WordsRel l w.heap.size v out op k w wr) (fun i _ _ _ => l.length - (intOf i).toNat)
  case atStart => exact ⟨0, [], false, by omega, rfl, rfl, World.ownsRow_nil _ _ _ _, Upd.refl _ _, rfl, by simp, by simp, by simp⟩
  case round =>
    obtain ⟨k, out, op, hk, rfl, rfl, hown, hu, hsp, hop, hol, hwl⟩ := hrel
    have HSP := Lib.hid hsp; clear hsp
    have HOP := Lib.hid hop; clear hop
    have HWL := Lib.hid hwl; clear hwl
    by_cases hlt : k < l.length
    · obtain ⟨ad, rfl, hc⟩ := (hs.upd hu).get hlt
      have hc' : wr.cell? (ad.add k) = some (.int .u8 l[k].toNat) := by rw [hc]; simp [byteV]
      clear hc
      have HBT := Lib.hid (wordsFrom_bt hlt out op)
      have HIN := Lib.hid (wordsFrom_in hlt out op)
      have HBAD := Lib.hid (wordsFrom_bad hlt out op)
      have hb0 : (0 : Int) ≤ l[k].toNat := by omega
      have hb1 : (l[k].toNat : Int) ≤ 255 := by have := UInt8.toNat_lt l[k]; omega
      by_cases hbt : btB l[k].toNat = true
      · have hcase : (l[k].toNat : Int) = 32 ∨ (l[k].toNat : Int) = 9 ∨ (l[k].toNat : Int) = 10 ∨ (l[k].toNat : Int) = 13 := by simpa [btB] using hbt
        have HB := Lib.hid hbt; clear hbt
        rcases hcase with h | h | h | h
        all_goals
          rw [h] at hc'
          have HX := Lib.hid h; clear h hb0 hb1
          go_wp2
          go_roundw
          case rel => exact ⟨k + 1, out, false, by omega, by go_num, rfl, hown, hu, by rw [HSP.out, HBT.out HB.out], by simp, by omega, fun x hx => by have := HWL.out x hx; omega⟩
          case measure => simp [intOf]; omega
      · have hbt' : btB l[k].toNat = false := by simpa using hbt
        have n1 : ((l[k].toNat : Int) == 32) = false := by simp [btB] at hbt ⊢; omega
        have n2 : ((l[k].toNat : Int) == 9) = false := by simp [btB] at hbt ⊢; omega
        have n3 : ((l[k].toNat : Int) == 10) = false := by simp [btB] at hbt ⊢; omega
        have n4 : ((l[k].toNat : Int) == 13) = false := by simp [btB] at hbt ⊢; omega
        have HB := Lib.hid hbt'; clear hbt hbt'
        by_cases hin : inB l[k].toNat = true
        · have hlo : (33 : Int) ≤ l[k].toNat := by simp [inB] at hin; omega
          have hhi : (l[k].toNat : Int) ≤ 126 := by simp [inB] at hin; omega
          have HI := Lib.hid hin; clear hin
          cases op with
          | true =>
            obtain ⟨a, x, rfl⟩ := snoc_of (HOP.out rfl)
            obtain ⟨g, cg, rfl, hBg, hgl, hcg⟩ := own_some hown (by simp)
            have hol2 : a.length + 1 ≤ k := by simpa using hol
            have hxl2 : x.1.length ≤ k := HWL.out x (by simp)
            have hxl : (x.1.length : Int) ≤ 8388608 := by omega
            have hcx := own_cell' hown (wdsV_get a x)
            have hfx := own_froz hown (a.length * 2)
            have hcf : (c = k) = False := by simp; omega
            have hcut := (hs.upd hu).cut (lo := k) (hi := k + 1) (cap := c) (by omega) (by omega) hcap
            rw [if_neg (by omega)] at hcut
            simp only [Nat.mul_one, Option.map_some, ← List.map_drop, ← List.map_take] at hcut
            have hl1 : (l.drop k).take (k + 1 - k) = [l[k]] := by rw [List.drop_eq_getElem_cons hlt, Nat.add_sub_cancel_left, List.take_succ_cons, List.take_zero]
            rw [hl1, Nat.add_sub_cancel_left] at hcut
            have hcv := run_str_of (P := Tryz.prog) (w := (wr).drew) 37 9 5 (c - k) Tryz.underlying37 Tryz.underlying5 Tryz.underlying9 (hcut.upd ((Upd.refl [] (wr)).drew))
            have hadd := fun (w : World) => run_string_add_lists (P := Tryz.prog) w (x).1 [l[k]] hxl (by simp)
            clear hcut hl1 hxl
            have hw1 : IntKind.i64.wrap (a.length : Int) = (a.length : Int) := IntWalk.i64_in _ (by omega)
            have hw2 : IntKind.i64.wrap ((k : Int) + 1) = (k : Int) + 1 := IntWalk.i64_in _ (by omega)
            have hw3 : (0 : Int) ≤ (k : Int) + 1 := by omega
            have hw5 : (0 : Int) ≤ (a.length : Int) := by omega
            have hw6 : (a.length : Int) < (a.length : Int) + 1 := by omega
            have hw7 : (k : Int) ≤ (k : Int) + 1 := by omega
            have hw8 : (k : Int) + 1 ≤ (c : Int) := by omega
            have hw4 : ((k : Int) + 1).toNat = k + 1 := by omega
            go_wp2
            go_still_tail 16, (by kernel_rfl)
            go_wp2
            refine ⟨⟨k + 1, a ++ [((x).1 ++ [l[k]], (x).2)], true, by omega, by go_num, rfl, ?_, ?_, ?_, by simp, ?_, ?_⟩, by simp [intOf]; omega⟩
            · have h1 := own_set hown (a.length * 2) (.string ⟨((x).1 ++ [l[k]]).toArray⟩)
              rw [wdsV_set] at h1
              have h2 := own_upd h1 ((Upd.refl [] _).drew) (by simp)
              simpa using h2
            · exact ((hu).setCell (.inr hBg) _).drew
            · rw [HSP.out, HIN.out HB.out HI.out]; simp [addByte_snoc]
            · simp; omega
            · intro y hy
              rcases List.mem_append.1 hy with h | h
              · have := HWL.out y (by simp [h]); omega
              · simp at h; subst h; simp; have := hxl2; omega
          | false =>
            have hW : w.heap.size ≤ wr.heap.size := hu.size
            go_wp2_with (at_builtin; go_must (refine wpList_append_sl rfl _ _ rfl ty_words w.heap.size _ out.length (wdsV out) rfl (hown.alloc _) [] _ 1 1 (wdV ([], (k : Int))) rfl (Sl.new wr [] _ 2 1 (wdV ([], (k : Int))) rfl (by simp)) (by simp [wdV, Value.oneCell']) (by unfold maxLen; omega) (by omega) (by simp; omega) ?_); intro v1 w1 hown1 hg1 hb1 _)
            have hu2 : Upd [] w w1 := (hu.alloc _).grown hg1 (fun kk hkk => .inr (own_lt hown kk hkk).1)
            have e1 : wdsV out ++ wdV ([], (k : Int)) = wdsV (out ++ [([], (k : Int))]) := by rw [wdsV_append]; simp [wdsV]
            rw [e1] at hown1
            obtain ⟨g, cg, rfl, hBg, hgl, hcg⟩ := own_some hown1 (by omega)
            have hown2 : w1.ownsRow w.heap.size 114 2 (.slice (some ⟨g, 0, none⟩) (out.length + 1) cg) (out.length + 1) (wdsV (out ++ [([], (k : Int))])) := hown1
            clear hg1 hb1 hown1 e1
            have hol2 : out.length + 1 ≤ k + 1 := by omega
            have hxl2 : ([] : List UInt8).length ≤ k := by simp
            have hxl : (([] : List UInt8).length : Int) ≤ 8388608 := by simp
            have hcx := own_cell' hown2 (wdsV_get out ([], (k : Int)))
            have hfx := own_froz hown2 (out.length * 2)
            have hcf : (c = k) = False := by simp; omega
            have hcut := (hs.upd hu2).cut (lo := k) (hi := k + 1) (cap := c) (by omega) (by omega) hcap
            rw [if_neg (by omega)] at hcut
            simp only [Nat.mul_one, Option.map_some, ← List.map_drop, ← List.map_take] at hcut
            have hl1 : (l.drop k).take (k + 1 - k) = [l[k]] := by rw [List.drop_eq_getElem_cons hlt, Nat.add_sub_cancel_left, List.take_succ_cons, List.take_zero]
            rw [hl1, Nat.add_sub_cancel_left] at hcut
            have hcv := run_str_of (P := Tryz.prog) (w := (w1).drew) 37 9 5 (c - k) Tryz.underlying37 Tryz.underlying5 Tryz.underlying9 (hcut.upd ((Upd.refl [] (w1)).drew))
            have hadd := fun (w : World) => run_string_add_lists (P := Tryz.prog) w ([] : List UInt8) [l[k]] hxl (by simp)
            clear hcut hl1 hxl
            have hw1 : IntKind.i64.wrap (out.length : Int) = (out.length : Int) := IntWalk.i64_in _ (by omega)
            have hw2 : IntKind.i64.wrap ((k : Int) + 1) = (k : Int) + 1 := IntWalk.i64_in _ (by omega)
            have hw3 : (0 : Int) ≤ (k : Int) + 1 := by omega
            have hw5 : (0 : Int) ≤ (out.length : Int) := by omega
            have hw6 : (out.length : Int) < (out.length : Int) + 1 := by omega
            have hw7 : (k : Int) ≤ (k : Int) + 1 := by omega
            have hw8 : (k : Int) + 1 ≤ (c : Int) := by omega
            have hw4 : ((k : Int) + 1).toNat = k + 1 := by omega
            go_wp2
            go_still_tail 16, (by kernel_rfl)
            go_wp2
            refine ⟨⟨k + 1, out ++ [(([] : List UInt8) ++ [l[k]], (k : Int))], true, by omega, by go_num, rfl, ?_, ?_, ?_, by simp, ?_, ?_⟩, by simp [intOf]; omega⟩
            · have h1 := own_set hown2 (out.length * 2) (.string ⟨(([] : List UInt8) ++ [l[k]]).toArray⟩)
              rw [wdsV_set] at h1
              have h2 := own_upd h1 ((Upd.refl [] _).drew) (by simp)
              simpa using h2
            · exact ((hu2).setCell (.inr hBg) _).drew
            · rw [HSP.out, HIN.out HB.out HI.out]; simp [addByte_snoc]
            · simp; omega
            · intro y hy
              rcases List.mem_append.1 hy with h | h
              · have := HWL.out y (h); omega
              · simp at h; subst h; simp
        · have hin' : inB l[k].toNat = false := by simpa using hin
          have hrg : (l[k].toNat : Int) < 33 ∨ 126 < (l[k].toNat : Int) := by simp [inB] at hin; omega
          have HI := Lib.hid hin'; clear hin hin'
          have hres : wordsFrom l 0 [] false = (if op then out.dropLast else out, (k : Int)) := by rw [HSP.out, HBAD.out HB.out HI.out]
          have HRES := Lib.hid hres; clear hres
          cases op with
          | true =>
            obtain ⟨a, x, rfl⟩ := snoc_of (HOP.out rfl)
            obtain ⟨g, cg, rfl, hBg, hgl, hcg⟩ := own_some hown (by simp)
            have hol2 : a.length + 1 ≤ k := by simpa using hol
            have hcg2 : a.length + 1 ≤ cg := by simpa using hcg
            rcases hrg with h | h
            all_goals
              go_wp2
              go_ret2
              unfold WordsPost
              rw [HRES.out]
              refine ⟨_, rfl, ?_, hu⟩
              have h1 := own_take hown (m := a.length) (by simp)
              rw [wdsV_take] at h1
              simpa using h1
          | false =>
            rcases hrg with h | h
            all_goals
              go_wp2
              go_ret2
              unfold WordsPost
              rw [HRES.out]
              exact ⟨_, rfl, hown, hu⟩
    · have hres : wordsFrom l 0 [] false = (out, -1) := by rw [HSP.out, wordsFrom_end hlt]
      have HRES := Lib.hid hres; clear hres
      go_wp2
      go_ret2
      unfold WordsPost
      rw [HRES.out]
      exact ⟨_, rfl, hown, hu⟩
end Go.Proofs.YtmmkeaokhbmgoaaGreatDoor
