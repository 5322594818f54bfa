/- script.Read of two bytes; awake. -/
import Derived.Test.YtmmkeaokhbmgoaaGreatDoorH1
import Derived.Maps.AppendAt
namespace Go.Proofs.YtmmkeaokhbmgoaaGreatDoor
open Go.RowKit Go.Shelf
attribute [local go_sem] Oper.semAt_some

def opsV (k : Nat) : List Value := (List.replicate k [Value.int .i64 6, .int .i64 4, .int .i64 0, .int .i64 0, .int .i64 0]).flatten
theorem ty_ops : SliceTy Tryz.prog 42 23 (.agg #[.int .i64 0, .int .i64 0, .int .i64 0, .int .i64 0, .int .i64 0]) 5 40 := ⟨Tryz.underlying42, info_parts (by kernel_rfl), rfl, by decide⟩

theorem wpListIn_append_sl {F0 : Fence} {N : Nat} {P : Program} {t e : TypeId} {z : Value} {size bytes : Nat} {w : World} {ops : Array Oper} {rest : List Oper} {o : Oper} {a : Act} {Q : Exit → Act → World → Prop} (hgd : o.guard = none) (s x : Operand)
    (ho : o.op = .call { callee := .builtin .append, args := #[s, x], argTypes := #[t, t] }) (T : SliceTy P t e z size bytes)
    (base : Nat) (v : Value) (n : Nat) (xs : List Value) (hs : a.eval s = v) (hown : w.ownsRow base e size v n xs)
    (F : List Nat) (A : Option Addr) (m c : Nat) (news : List Value) (hx : a.eval x = .slice A m c) (hsl : Sl w F size A m news) (h1 : ∀ u ∈ news, u.oneCell' = true)
    (h63 : n + m ≤ maxLen) (hbytes : (n + m) * bytes ≤ 140737488355328) (hbase : base ≤ w.heap.size)
    (h : ∀ v' w', w'.ownsRow base e size v' (n + m) (xs ++ news) → w.grownBy w' v.ownBlock → (∀ g, v'.ownBlock = some g → v.ownBlock = some g ∨ w.heap.size ≤ g) → (v' = .slice none 0 0 ↔ v = .slice none 0 0 ∧ m = 0) →
      wpListIn F0 N P ops Q rest (a.put o.dst v') w') : wpListIn F0 N P ops Q (o :: rest) a w := by
  refine wpListIn_plain hgd fun K hK => ?_
  obtain ⟨v', w', hr, h2, h3, h4, h5⟩ := run_append_sl T o.type base v n xs hown F A m c news hsl h1 h63 hbytes hbase
  unfold Oper.wpIn
  refine ⟨?_, ?_⟩
  · simp [Oper.about, ho, resolve, Target.leads, Sem.run_pure]
  · rw [Oper.semAt_plain F0 _ _ (by rw [ho]; intro c hc'; cases hc')]
    simp [execOp, ho, resolve, invoke, builtin, hs, hx, hr, Result.andThen]
    exact hK _ _ (h v' w' h2 h3 h4 h5)
theorem Upd.keepsFrom {F : List Nat} {A B : World} {n : Nat} (h : Upd F A B) (hF : ∀ x ∈ F, x < n) : KeepsFrom n A B :=
  ⟨h.size, fun k o hk ho _ => (h.block k (Array.getElem?_eq_some_iff.1 ho).1 (fun hx => by have := hF k hx; omega)).trans ho⟩
theorem ownFrom_size {β : Type} (n m : Nat) : OwnFrom n (fun (_ : β) W => m ≤ W.heap.size) := fun _ _ _ _ hs hg _ => Nat.le_trans hs hg.size
def ReadOpPost (w : World) (e : Ending) (w' : World) : Prop := ∃ v, e = .returned v ∧ w'.ownsRow w.heap.size 23 5 v 1 [.int .i64 6, .int .i64 4, .int .i64 0, .int .i64 0, .int .i64 0] ∧ Below w.heap.size w w'

set_option maxRecDepth 100000 in
set_option maxHeartbeats 2000000 in
theorem readOp (g : Nat) (w : World) (hB : Blk w g 5 #[.int .u8 6, .int .u8 4]) :
    Calls Tryz.prog 9 #[.slice (some ⟨g, 0, none⟩) 2 2] w (ReadOpPost w) := by
  refine (callsIn_wide (n := 4)).1 ?_
  refine callsIn_of_wp_marks Tryz.func9 rfl trivial ?_ rfl
  simp only [Tryz.ntmps9, List.size_toArray, List.length_cons, List.length_nil, Nat.reduceAdd, Nat.reduceSub, Array.replicate_succ, Array.replicate_zero, List.push_toArray, List.append_toArray, List.nil_append, List.cons_append]
  have HB := Lib.hid hB; clear hB
  gi_wp2_with (refine ⟨trivial, ?_⟩; gi_at_call 28; refine (callsIn_wide.2 (chunkMake _ _ _ _)).mono ?_; rintro e w' ⟨rfl, rfl⟩)
  have bO := Boxed.new w 42 (.slice none 0 0)
  have bS := Boxed.new (w.alloc (.cells #[.slice none 0 0] 42)) 37 (.slice (some ⟨g, 0, none⟩) 2 2)
  have bN := Boxed.new ((w.alloc (.cells #[.slice none 0 0] 42)).alloc (.cells #[.slice (some ⟨g, 0, none⟩) 2 2] 37)) 3 (.int .i64 6)
  rw [World.size_alloc] at bS
  rw [World.size_alloc, World.size_alloc] at bN
  have hB0 : Below w.heap.size w (((w.alloc (.cells #[.slice none 0 0] 42)).alloc (.cells #[.slice (some ⟨g, 0, none⟩) 2 2] 37)).alloc (.cells #[.int .i64 6] 3)) := (((Below.refl _ w).alloc (Nat.le_refl _) _).alloc (by simp) _).alloc (by simp; omega) _
  have bO2 := (bO.alloc (.cells #[.slice (some ⟨g, 0, none⟩) 2 2] 37)).alloc (.cells #[.int .i64 6] 3)
  have bS2 := bS.alloc (.cells #[.int .i64 6] 3)
  obtain ⟨W0, hW0⟩ : ∃ W0, (((w.alloc (.cells #[.slice none 0 0] 42)).alloc (.cells #[.slice (some ⟨g, 0, none⟩) 2 2] 37)).alloc (.cells #[.int .i64 6] 3)) = W0 := ⟨_, rfl⟩
  rw [hW0] at hB0 bO2 bS2 bN ⊢
  have hsz : W0.heap.size = w.heap.size + 3 := by rw [← hW0]; simp
  have hgl : g < w.heap.size := HB.out.lt
  clear bO bS hW0
  refine wpIn_rangeFunc_ownG rfl (by omega) (gf := 93) (lb := #[.pointer (some ⟨w.heap.size + 1, 0, none⟩), .pointer (some ⟨w.heap.size + 1 + 1, 0, none⟩)]) rfl trivial (enters_of Tryz.func93 (by kernel_rfl) rfl)
    (chunk_stops (w.heap.size + 1) (w.heap.size + 1 + 1) g W0 bS2.cell bN.cell (by omega) (by omega)) KeepsBlocks.trans (keepsBlocks_b (by simp; omega)) (Below.refl _ _) (fun _ => rfl)
    (fun pre W => (∃ v, Boxed W w.heap.size 42 v ∧ W.ownsRow w.heap.size 23 5 v pre.length (opsV pre.length) ∧ (pre = [] → v = .slice none 0 0)) ∧ (Below w.heap.size w W ∧ W0.heap.size ≤ W.heap.size))
    (fun _ _ _ => False)
    (OwnFrom.and (Own.from (holdsRow_own w.heap.size w.heap.size 42 23 5 (fun pre : List Unit => pre.length) (fun pre => opsV pre.length) (fun pre v => pre = [] → v = .slice none 0 0)) _) (OwnFrom.and (ownFrom_below (Nat.le_refl _) (by omega)) (ownFrom_size _ _)))
    (fun _ _ _ _ _ hs _ _ => hs)
    ⟨⟨_, bO2, World.ownsRow_nil _ _ _ _, fun _ => rfl⟩, hB0, Nat.le_refl _⟩
    (fun x => { tmps := #[.slice (some ⟨g, 0, none⟩) 2 2, undef, .slice none 0 0, .pointer (some ⟨w.heap.size, 0, none⟩), .slice (some ⟨g, 0, none⟩) 2 2, undef, .slice (some ⟨g, 0, none⟩) 2 2, .func (.func 93) #[] #[.pointer (some ⟨w.heap.size + 1, 0, none⟩), .pointer (some ⟨w.heap.size + 1 + 1, 0, none⟩)], .slice (some ⟨g, 0, none⟩) 2 2, undef, undef, undef, undef, undef, undef, undef, undef, undef, undef, undef, undef, undef, undef, undef, undef, undef, undef, undef, undef, undef, undef, undef, undef, undef, undef, undef, undef, undef, undef, undef, undef], defers := [] }) ?assign ?body ?done ?stop
  case assign =>
    intro l x W K hK
    gi_wp2
    exact hK
  case body =>
    rintro l pre x W ⟨⟨v, bv, hrow, hnil⟩, hB, hWs⟩ hlt
    obtain rfl : pre = [] := List.eq_nil_of_length_eq_zero (by omega)
    obtain rfl := hnil rfl
    have hBg := HB.out.upd (Upd.of_below (F := []) hB (Nat.le_refl _)) (by simp)
    have g0 := hBg.cell 0
    have g1 := hBg.cell 1
    simp at g0 g1
    obtain ⟨X, hcp, hX, huX⟩ : ∃ X, (Builtin.copy_ #[37, 37] 3 #[.slice (some ⟨W.heap.size, 0, none⟩) 6 6, .slice (some ⟨g, 0, none⟩) 2 2]).run Tryz.prog (W.alloc (.cells #[.int .u8 0, .int .u8 0, .int .u8 0, .int .u8 0, .int .u8 0, .int .u8 0] 76)) = .ok (.int .i64 2) X ∧
        Blk X W.heap.size 76 #[.int .u8 6, .int .u8 4, .int .u8 0, .int .u8 0, .int .u8 0, .int .u8 0] ∧ Upd [] W X := by
      have hnew := Blk.new W 76 #[.int .u8 0, .int .u8 0, .int .u8 0, .int .u8 0, .int .u8 0, .int .u8 0]
      have hBgX := hBg.alloc (.cells #[.int .u8 0, .int .u8 0, .int .u8 0, .int .u8 0, .int .u8 0, .int .u8 0] 76)
      have hr := run_copy_row (P := Tryz.prog) (W.alloc (.cells #[.int .u8 0, .int .u8 0, .int .u8 0, .int .u8 0, .int .u8 0, .int .u8 0] 76)) 37 37 3 5 W.heap.size 0 6 6 ⟨g, 0, none⟩ 2 2 _ 76 [.int .u8 6, .int .u8 4]
        Tryz.underlying37 (by kernel_rfl) hnew rfl (fun j v hj => by rw [add_plain, Nat.zero_add, hBgX.cell]; simpa using hj) (by simp) (by simp [Value.oneCell'])
      refine ⟨_, hr, ?_, ?_⟩
      · exact setRow_heap _ W.heap.size _ _ _ _ hnew
      · refine Upd.then (F := []) (G := [W.heap.size]) ((Upd.refl [] W).alloc (.cells #[.int .u8 0, .int .u8 0, .int .u8 0, .int .u8 0, .int .u8 0, .int .u8 0] 76)) ⟨rfl, rfl, rfl, by simp, fun k _ hk => setRow_other _ W.heap.size k _ (by simpa using hk)⟩ (by simp)
    have x0 := hX.cell 0; have x1 := hX.cell 1; have x2 := hX.cell 2; have x3 := hX.cell 3; have x4 := hX.cell 4; have x5 := hX.cell 5
    simp at x0 x1 x2 x3 x4 x5
    have bX := (Blk.upd (F := []) (show Blk W w.heap.size 42 #[.slice none 0 0] from bv) huX (by simp))
    have b0 := bX.cell 0
    simp at b0
    have HX := Lib.hid huX
    have BX := Lib.hid bX
    clear huX bX hX hBg g0 g1
    gi_wp2_with (gi_at_builtin; go_loud (refine wpListIn_append_sl rfl _ _ rfl ty_ops w.heap.size (.slice none 0 0) 0 [] rfl (World.ownsRow_nil _ _ _ _) [] _ 1 1 [.int .i64 6, .int .i64 4, .int .i64 0, .int .i64 0, .int .i64 0] rfl (Sl.new X [] _ 5 1 _ rfl (by simp)) (by simp [Value.oneCell']) (by decide) (by decide) (by have := HX.out.size; have := hB.size; simp; omega) ?_; intro v5 w5 hown5 hg5 hv5 hn5; obtain ⟨g5, c5, rfl, hg5', hl5, hc5⟩ := own_some hown5 (by decide); have hu5 : Upd [] X w5 := (((Upd.refl [] X).alloc _).grown hg5 (fun k hk => by cases hk)); have b5 := BX.out.upd hu5 (by simp); have b5c : w5.cell? ⟨w.heap.size, 0, none⟩ = some (.slice none 0 0) := (by simpa using b5.cell 0); have b5f := b5.froz 0))
    have hne : g5 ≠ w.heap.size := by
      rcases hv5 g5 rfl with h | h
      · cases h
      · have := BX.out.lt; simp at h; omega
    have hUW : Upd [w.heap.size] W (w5.setCell ⟨w.heap.size, 0, none⟩ (.slice (some ⟨g5, 0, none⟩) 1 c5)) := ((HX.out.trans hu5).mono (by simp)).setCell (.inl (by simp)) _
    have hrow2 := own_upd hown5 ((Upd.refl [w.heap.size] w5).setCell (p := ⟨w.heap.size, 0, none⟩) (.inl (by simp)) (.slice (some ⟨g5, 0, none⟩) 1 c5)) (by rintro g ⟨⟩; simpa using hne)
    refine ⟨hUW.keepsFrom (by simp), hUW.keeps (by simp; omega), ⟨_, by simpa [Boxed, Blk] using b5.set 0 (.slice (some ⟨g5, 0, none⟩) 1 c5), hrow2, by simp⟩, hB.trans (hUW.below (by simp) hB.size), Nat.le_trans (by omega) hUW.size⟩
  case done =>
    rintro D ys W hD rfl ⟨⟨v, bv, hrow, _⟩, hB, hWs⟩ hK
    obtain ⟨g5, c5, rfl, hg5', hl5, hc5⟩ := own_some hrow (by decide)
    have b0 := bv.cell
    gi_wp2
    refine ⟨by simp, .inl ⟨_, _, rfl, run_takeDeferred hK, ?_⟩⟩
    exact ⟨_, results_tmp rfl _ _ _, _, rfl, ownsRow_putObj hrow _ hK rfl, hB.trans (belowK_b (w := w) (Nat.le_refl _) W D _ _ (by omega) hK rfl rfl)⟩
  case stop =>
    rintro D c pre W _ _ h _
    exact h.elim
end Go.Proofs.YtmmkeaokhbmgoaaGreatDoor
