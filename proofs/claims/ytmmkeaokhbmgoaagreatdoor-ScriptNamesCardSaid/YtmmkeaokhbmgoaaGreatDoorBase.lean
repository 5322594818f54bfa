/- My own words for memory: what a step may turn ('Upd'), a block that is known whole ('Blk'), a slice that reads as a list of cells ('Sl'). No program is named here. -/
import Derived.WalkKit
import Derived.WalkSpells
import Derived.WalkLawsBesides
import Derived.Lib.Hide
namespace Go.Proofs.YtmmkeaokhbmgoaaGreatDoor
open Go.RowKit

/-- Of the blocks that lay in w none but those of F may have turned in w'; new ones may lie behind. -/
structure Upd (F : List Nat) (w w' : World) : Prop where
  os : w'.os = w.os
  tape : w'.tape = w.tape
  output : w'.output = w.output
  size : w.heap.size ≤ w'.heap.size
  block : ∀ k, k < w.heap.size → k ∉ F → w'.heap[k]? = w.heap[k]?

section
variable {F G : List Nat} {a b c w w' : World}
theorem Upd.refl (F : List Nat) (w : World) : Upd F w w := ⟨rfl, rfl, rfl, Nat.le_refl _, fun _ _ _ => rfl⟩
/-- Two steps; the second may turn what the first has laid. -/
theorem Upd.then (h : Upd F a b) (k : Upd G b c) (hG : ∀ x ∈ G, x ∈ F ∨ a.heap.size ≤ x) : Upd F a c :=
  ⟨k.os.trans h.os, k.tape.trans h.tape, k.output.trans h.output, Nat.le_trans h.size k.size, fun i hi hF =>
    (k.block i (Nat.lt_of_lt_of_le hi h.size) (fun hx => by rcases hG i hx with h1 | h1; exact hF h1; omega)).trans (h.block i hi hF)⟩
theorem Upd.trans (h : Upd F a b) (k : Upd F b c) : Upd F a c := h.then k fun _ hx => .inl hx
theorem Upd.then_nil (h : Upd F a b) (k : Upd [] b c) : Upd F a c := h.then k fun _ hx => by cases hx
theorem Upd.mono (h : Upd F a b) (hF : ∀ x ∈ F, x ∈ G) : Upd G a b :=
  ⟨h.os, h.tape, h.output, h.size, fun i hi hG => h.block i hi fun hx => hG (hF i hx)⟩
theorem Upd.drew (h : Upd F a w) : Upd F a w.drew := ⟨h.os, h.tape, h.output, h.size, h.block⟩
theorem Upd.drewN (h : Upd F a w) (n : Nat) : Upd F a (w.drewN n) := ⟨h.os, h.tape, h.output, h.size, h.block⟩
theorem Upd.alloc (h : Upd F a w) (o : Obj) : Upd F a (w.alloc o) :=
  h.then_nil ⟨rfl, rfl, rfl, by simp, fun k hk _ => Below.heap_alloc _ _ _ hk⟩
theorem Upd.setCell (h : Upd F a w) {p : Addr} (hp : p.block ∈ F ∨ a.heap.size ≤ p.block) (u : Value) : Upd F a (w.setCell p u) :=
  h.then (G := [p.block]) ⟨rfl, rfl, rfl, by simp [World.setCell], fun k _ hk => Below.heap_setCell _ _ _ _ (by simpa using hk)⟩ (by simpa using hp)
theorem Upd.grown {row : Option Nat} (h : Upd F a w) (hg : w.grownBy w' row) (hr : ∀ k, row = some k → k ∈ F ∨ a.heap.size ≤ k) : Upd F a w' :=
  h.then (G := row.toList) ⟨hg.os, hg.tape, hg.output, hg.size, fun k hk hx => hg.block k hk (fun e => hx (by rw [← e]; simp))⟩
    (fun x hx => hr x (by simpa using hx))
theorem Upd.of_below {B : Nat} (h : Below B w w') (hB : w.heap.size ≤ B) : Upd F w w' := ⟨h.os, h.tape, h.output, h.size, fun k hk _ => h.block k (by omega)⟩
theorem Upd.below {B : Nat} (h : Upd F w w') (hF : ∀ x ∈ F, B ≤ x) (hB : B ≤ w.heap.size) : Below B w w' :=
  ⟨h.os, h.tape, h.output, h.size, fun k hk => h.block k (by omega) (fun hx => by have := hF k hx; omega)⟩
theorem Upd.cell (h : Upd F w w') {p : Addr} {v : Value} (hv : w.cell? p = some v) (hp : p.block ∉ F) : w'.cell? p = some v :=
  (World.cell?_of_block (h.block p.block (World.block_lt_of_cell? w p hv) hp)).trans hv
end

/-- Block g is just these cells, none of them frozen. -/
def Blk (w : World) (g : Nat) (t : TypeId) (cs : Array Value) : Prop := w.heap[g]? = some (.cells cs t (0, 0))
section
variable {F : List Nat} {w w' : World} {g : Nat} {t : TypeId} {cs : Array Value}
theorem Blk.lt (h : Blk w g t cs) : g < w.heap.size := (Array.getElem?_eq_some_iff.1 h).1
theorem Blk.cell (h : Blk w g t cs) (i : Nat) : w.cell? ⟨g, i, none⟩ = cs[i]? := cell_of_row w g i cs t (0, 0) h
theorem Blk.froz (h : Blk w g t cs) (i : Nat) : w.frozen? ⟨g, i, none⟩ = false := by unfold Blk at h; simp [World.frozen?, h]
theorem Blk.new (w : World) (t : TypeId) (cs : Array Value) : Blk (w.alloc (.cells cs t)) w.heap.size t cs := heap_alloc_new w _
theorem Blk.upd (h : Blk w g t cs) (hu : Upd F w w') (hg : g ∉ F) : Blk w' g t cs := (hu.block g h.lt hg).trans h
theorem Blk.alloc (h : Blk w g t cs) (o : Obj) : Blk (w.alloc o) g t cs := (Below.heap_alloc w o g h.lt).trans h
theorem Blk.set (h : Blk w g t cs) (i : Nat) (u : Value) : Blk (w.setCell ⟨g, i, none⟩ u) g t (cs.setIfInBounds i u) := by
  unfold Blk at h ⊢; simp [World.setCell, Array.getElem?_modify, h]
theorem Blk.far (h : Blk w g t cs) {p : Addr} (hp : g ≠ p.block) (u : Value) : Blk (w.setCell p u) g t cs := (Below.heap_setCell w p u g hp).trans h
end

/-- The slice value '.slice A n c' holds the cells xs (size cells an element); its block is not in F (so what turns F alone keeps it). -/
def Sl (w : World) (F : List Nat) (size : Nat) (A : Option Addr) (n : Nat) (xs : List Value) : Prop :=
  xs.length = n * size ∧ (0 < n → ∃ ad, A = some ad ∧ ad.block ∉ F ∧ ad.block < w.heap.size ∧ ∀ j u, xs[j]? = some u → w.cell? (ad.add j) = some u)
section
variable {F G : List Nat} {w w' : World} {size n : Nat} {A : Option Addr} {xs : List Value}
theorem block_add (a : Addr) (n : Nat) : (a.add n).block = a.block := by unfold Addr.add; split <;> rfl
theorem add_add (a : Addr) (i j : Nat) : (a.add i).add j = a.add (i + j) := by
  unfold Addr.add
  by_cases hi : i = 0 <;> by_cases hj : j = 0 <;> simp [hi, hj, Nat.add_assoc]
theorem Sl.nil (w : World) (F : List Nat) (size : Nat) (A : Option Addr) : Sl w F size A 0 [] := ⟨by simp, fun h => absurd h (by omega)⟩
theorem Sl.get {k : Nat} (h : Sl w F 1 A n xs) (hk : k < n) : ∃ ad, A = some ad ∧ w.cell? (ad.add k) = some (xs[k]'(by have := h.1; omega)) := by
  obtain ⟨ad, e, _, _, hc⟩ := h.2 (by omega)
  exact ⟨ad, e, hc k _ (List.getElem?_eq_getElem _)⟩
theorem Sl.upd (h : Sl w F size A n xs) (hu : Upd F w w') : Sl w' F size A n xs :=
  ⟨h.1, fun hn => by
    obtain ⟨ad, e, hF, hl, hc⟩ := h.2 hn
    exact ⟨ad, e, hF, by have := hu.size; omega, fun j u hj => hu.cell (hc j u hj) (by rw [block_add]; exact hF)⟩⟩
theorem Sl.less (h : Sl w F size A n xs) (hG : ∀ x ∈ G, x ∈ F) : Sl w G size A n xs :=
  ⟨h.1, fun hn => by
    obtain ⟨ad, e, hF, hl, hc⟩ := h.2 hn
    exact ⟨ad, e, fun hx => hF (hG _ hx), hl, hc⟩⟩
theorem Sl.alloc (h : Sl w F size A n xs) (o : Obj) : Sl (w.alloc o) F size A n xs := h.upd ((Upd.refl F w).alloc o)
theorem Sl.more (h : Sl w F size A n xs) (hG : ∀ x ∈ G, x ∈ F ∨ w.heap.size ≤ x) : Sl w G size A n xs :=
  ⟨h.1, fun hn => by
    obtain ⟨ad, e, hF, hl, hc⟩ := h.2 hn
    exact ⟨ad, e, fun hx => (hG _ hx).elim hF (by omega), hl, hc⟩⟩
end

theorem add_plain (g o j : Nat) : (⟨g, o, none⟩ : Addr).add j = ⟨g, o + j, none⟩ := by
  unfold Addr.add
  split
  · rename_i h; subst h; rfl
  · rfl
theorem add_zero' (a : Addr) : a.add 0 = a := by unfold Addr.add; simp
theorem Sl.spot {w : World} {F : List Nat} {size n : Nat} {A : Option Addr} {xs : List Value} (h : Sl w F size A n xs) (hn : 0 < n) (hs : 0 < size) :
    ∃ g o, A = some ⟨g, o, none⟩ ∧ g ∉ F ∧ g < w.heap.size ∧ ∀ j u, xs[j]? = some u → w.cell? ⟨g, o + j, none⟩ = some u := by
  obtain ⟨ad, rfl, hF, hl, hc⟩ := h.2 hn
  have h0 : 0 < xs.length := by rw [h.1]; exact Nat.mul_pos hn hs
  have h00 := hc 0 _ (List.getElem?_eq_getElem h0)
  rw [add_zero'] at h00
  have hsp := World.cell?_spot h00
  obtain ⟨g, o, sp⟩ := ad
  dsimp only at hsp
  subst hsp
  exact ⟨g, o, rfl, hF, hl, fun j u hj => by rw [← add_plain]; exact hc j u hj⟩

/-- Bytes as cells. -/
def byteV (b : UInt8) : Value := .int .u8 b.toNat
theorem Sl.cut {w : World} {F : List Nat} {size n : Nat} {A : Option Addr} {xs : List Value} (h : Sl w F size A n xs) {lo hi cap : Nat} (h1 : lo ≤ hi) (h2 : hi ≤ n) (h3 : n ≤ cap) :
    Sl w F size (if cap = lo then A else A.map (·.add (lo * size))) (hi - lo) ((xs.drop (lo * size)).take ((hi - lo) * size)) := by
  have hb : hi * size ≤ n * size := Nat.mul_le_mul_right _ h2
  have ha : lo * size ≤ hi * size := Nat.mul_le_mul_right _ h1
  refine ⟨by rw [List.length_take, List.length_drop, h.1, Nat.sub_mul]; omega, fun hn => ?_⟩
  obtain ⟨ad, rfl, hF, hl, hc⟩ := h.2 (by omega)
  rw [if_neg (by omega)]
  refine ⟨ad.add (lo * size), rfl, by rw [block_add]; exact hF, by rw [block_add]; exact hl, fun j u hu => ?_⟩
  rw [add_add]
  refine hc _ u ?_
  rw [List.getElem?_take] at hu
  split at hu
  · rw [← hu, List.getElem?_drop]
  · cases hu
theorem Sl.cap_ne {w : World} {F : List Nat} {size n : Nat} {A : Option Addr} {xs : List Value} (h : Sl w F size A n xs) (hn : 0 < n) : A ≠ none := by
  obtain ⟨ad, rfl, _⟩ := h.2 hn; simp
theorem run_str_of {P : Program} {w : World} {F : List Nat} {A : Option Addr} {n : Nat} {l : List UInt8} (src dst e : TypeId) (c : Nat)
    (hs : P.underlying src = some (.slice e)) (he : P.underlying e = some (.int .u8)) (hd : P.underlying dst = some .string) (h : Sl w F 1 A n (l.map byteV)) :
    (convert src dst (.slice A n c)).run P w = .ok (.string ⟨l.toArray⟩) w := by
  have hl : l.length = n := by have := h.1; simpa using this
  rw [run_convert_bytes_string w src dst e _ n c hs he hd]
  have hm : l.map byteV = (l.map fun b => (b.toNat : Int)).map (Value.int .u8) := by simp [byteV, Function.comp_def]
  have hf : ∀ (xs : List UInt8) (s : ByteArray), (xs.map fun b => (b.toNat : Int)).foldl (fun r n => r.push (UInt8.ofNat n.toNat)) s = ⟨s.data ++ xs.toArray⟩ := by
    intro xs
    induction xs with
    | nil => intro s; simp
    | cons x xs ih => intro s; simp only [List.map_cons, List.foldl_cons, ih]; cases s; simp [ByteArray.push]
  rcases Nat.eq_zero_or_pos n with h0 | h0
  · subst h0
    obtain rfl : l = [] := List.eq_nil_of_length_eq_zero hl
    cases A with
    | none => simp [Conv.bytesToString]; rfl
    | some ad =>
      rw [run_bytesToString w ad 0 c [] (by have := run_loadCells_list (P := P) (w := w) ad [] (by simp); simpa using this)]
      rfl
  · obtain ⟨ad, rfl, _, _, hc⟩ := h.2 h0
    rw [run_bytesToString w ad n c (l.map fun b => (b.toNat : Int)) (by
      have := run_loadCells_list (P := P) (w := w) ad (l.map byteV) hc
      rw [List.length_map, hl] at this
      rw [← hm]; exact this)]
    rw [hf]; simp [ByteArray.empty, ByteArray.emptyWithCapacity]; rfl
end Go.Proofs.YtmmkeaokhbmgoaaGreatDoor
