/- net.Of of a file without functions. -/
import Derived.Test.YtmmkeaokhbmgoaaGreatDoorC2
import Derived.Deep.OwnRows
import Derived.StillTailTactics
import Derived.Deep.RegionLaw
namespace Go.Proofs.YtmmkeaokhbmgoaaGreatDoor
open Go.RowKit

theorem step_append_sl {P : Program} {t e : TypeId} {z : Value} {size bytes : Nat} {w : World} {ops : Array Oper} {o : Oper} {a : Act} {K : Act → World → Prop} {Q : Exit → Act → World → Prop} {E : Prop} (hgd : o.guard = none) (s x : Operand)
    (ho : o.op = .call { callee := .builtin .append, args := #[s, x], argTypes := #[t, t] }) (T : SliceTy P t e z size bytes)
    (base : Nat) (v : Value) (n : Nat) (xs : List Value) (hs : a.eval s = v) (hown : w.ownsRow base e size v n xs)
    (F : List Nat) (A : Option Addr) (m c : Nat) (news : List Value) (hx : a.eval x = .slice A m c) (hsl : Sl w F size A m news) (h1 : ∀ u ∈ news, u.oneCell' = true)
    (h63 : n + m ≤ maxLen) (hbytes : (n + m) * bytes ≤ 140737488355328) (hbase : base ≤ w.heap.size)
    (h : ∀ v' w', w'.ownsRow base e size v' (n + m) (xs ++ news) → w.grownBy w' v.ownBlock → (∀ g, v'.ownBlock = some g → v.ownBlock = some g ∨ w.heap.size ≤ g) → (v' = .slice none 0 0 ↔ v = .slice none 0 0 ∧ m = 0) →
      K (a.put o.dst v') w') : if Region.wanted o (yielded ops a.tmps) = true then Oper.wp P o a w K Q else E := by
  obtain ⟨v', w', hr, h2, h3, h4, h5⟩ := run_append_sl T o.type base v n xs hown F A m c news hsl h1 h63 hbytes hbase
  have hw : Region.wanted o (yielded ops a.tmps) = true := by simp [Region.wanted, hgd]
  rw [if_pos hw]
  unfold Oper.wp execOp
  simp only [ho, resolve, invoke, builtin, Sem.run_bind, Sem.run_pure, Result.andThen_ok, List.map_toArray, List.map_cons, List.map_nil, hs, hx, hr]
  exact h v' w' h2 h3 h4 h5
theorem ty_rows : SliceTy Tryz.prog 30 51 (.slice none 0 0) 1 24 := ⟨Tryz.underlying30, info_parts (by kernel_rfl), rfl, by decide⟩

theorem Sl.of_blk {w : World} {g : Nat} {t : TypeId} {cs : Array Value} {F : List Nat} (h : Blk w g t cs) (hF : g ∉ F) : Sl w F 1 (some ⟨g, 0, none⟩) cs.size cs.toList :=
  ⟨by simp, fun _ => ⟨_, rfl, hF, h.lt, fun j u hu => by rw [add_plain, Nat.zero_add, h.cell]; simpa using hu⟩⟩
theorem Blk.drew {w : World} {g : Nat} {t : TypeId} {cs : Array Value} (h : Blk w g t cs) : Blk w.drew g t cs := h
theorem make1 (w : World) : (Instr.makeSlice 51 (.int .i64 1) (.int .i64 1)).run Tryz.prog w = .ok (.slice (some ⟨w.heap.size, 0, none⟩) 1 1) (w.alloc (.cells #[.int .i64 0] 2)) :=
  by
    have h := run_make_row' (P := Tryz.prog) 51 2 (.int .i64 0) 8 Tryz.underlying51 (by kernel_rfl) rfl .i64 .i64 1 (by decide) (by decide) w
    rw [show madeCells #[Value.int .i64 0] 1 = #[.int .i64 0] from Array.toList_inj.1 (made_one (.int .i64 0) 1 rfl)] at h
    exact h

def NetOf0Post (w : World) (e : Ending) (w' : World) : Prop :=
  ∃ b f A c U uc V vc, e = .returned (.tuple #[.pointer (some ⟨b, 0, none⟩), .int .i64 0]) ∧ w.heap.size ≤ b ∧ w.heap.size ≤ f ∧
    Blk w' b 127 #[.pointer (some ⟨f, 0, none⟩), .int .i64 0, .slice U 1 uc, .slice none 0 0] ∧
    Blk w' f 102 #[.string ⟨[116].toArray⟩, .int .i64 1, .slice A 1 c, .slice none 0 0] ∧ Sl w' (List.range w.heap.size) 1 A 1 [intV 1] ∧ 1 ≤ c ∧
    Sl w' (List.range w.heap.size) 1 U 1 [.slice V 1 vc] ∧ 1 ≤ uc ∧ Sl w' (List.range w.heap.size) 1 V 1 [intV 0] ∧ 1 ≤ vc ∧ Upd [] w w'

set_option maxRecDepth 100000 in
set_option maxHeartbeats 1000000 in
theorem netOf0 (b : Nat) (t : TypeId) (A : Option Addr) (c : Nat) (w : World) (hB : Blk w b t #[.string ⟨[116].toArray⟩, .int .i64 1, .slice A 1 c, .slice none 0 0]) (hs : Sl w [] 1 A 1 [intV 1]) :
    Calls Tryz.prog 13 #[.pointer (some ⟨b, 0, none⟩)] w (NetOf0Post w) := by
  go_enter Tryz.func13, Tryz.ntmps13
  go_wp2_with fail
  refine (canon0 b t A c w hB hs).mono ?_
  rintro e w1 ⟨f, A1, c1, rfl, hf, hB1, hs1, hc1, hu1⟩
  have h0 := hB1.cell 0; have h1 := hB1.cell 1; have h2 := hB1.cell 2; have h3 := hB1.cell 3
  simp at h0 h1 h2 h3
  have k2 : ∀ o, (w1.alloc o).cell? ⟨f, 2, none⟩ = some (.slice A1 1 c1) := fun o => by simpa using (hB1.alloc o).cell 2
  go_wp2_with fail
  obtain ⟨W, hW⟩ : ∃ W, W = w1.alloc (.cells #[.pointer (some ⟨f, 0, none⟩), .int .i64 0, .slice none 0 0, .slice none 0 0] 127) := ⟨_, rfl⟩
  rw [← hW]
  have hBn : Blk W w1.heap.size 127 #[.pointer (some ⟨f, 0, none⟩), .int .i64 0, .slice none 0 0, .slice none 0 0] := by rw [hW]; exact Blk.new _ _ _
  have hBf : Blk W f 102 #[.string ⟨[116].toArray⟩, .int .i64 1, .slice A1 1 c1, .slice none 0 0] := by rw [hW]; exact hB1.alloc _
  have hsf : Sl W (w1.heap.size :: List.range w.heap.size) 1 A1 1 [intV 1] := by rw [hW]; exact (hs1.more (by intro x hx; rcases List.mem_cons.1 hx with h | h; exact .inr (by omega); exact .inl h)).alloc _
  have hu2 : Upd [] w W := by rw [hW]; exact hu1.alloc _
  have hRW : ∀ x ∈ List.range w.heap.size, x < W.heap.size := by intro x hx; have := List.mem_range.1 hx; have := hu2.size; omega
  have hne : f ≠ w1.heap.size := Nat.ne_of_lt hB1.lt
  have hnb : w.heap.size ≤ w1.heap.size := hu1.size
  generalize w1.heap.size = nb at hBn hne hnb hsf ⊢
  clear hW k2 h0 h1 h2 h3 hs1 hB1 hu1 hs hB
  obtain ⟨ad, rfl, hc0⟩ := hsf.get (k := 0) (by omega)
  rw [add_zero'] at hc0
  simp [intV] at hc0
  have h2 := hBf.cell 2; have h3 := hBf.cell 3; have n2 := hBn.cell 2; have f2 := hBn.froz 2
  simp at h2 h3 n2
  have HF := Lib.hid hsf; clear hsf
  refine wp_loop_rounds 2 ?_
  rw [rounds_succ]
  go_wp2_with fail
  have MK := make1
  have k1 : ∀ o, (W.alloc o).cell? ⟨nb, 2, none⟩ = some (.slice none 0 0) := fun o => by simpa using (hBn.alloc o).cell 2
  have k2 : ∀ o o', ((W.alloc o).alloc o').cell? ⟨nb, 2, none⟩ = some (.slice none 0 0) := fun o o' => by simpa using ((hBn.alloc o).alloc o').cell 2
  go_region_law ((refine step_append_sl rfl (.tmp 37) (.tmp 40) rfl ty_rows W.heap.size (.slice none 0 0) 0 [] rfl (World.ownsRow_nil _ _ _ _) [] _ 1 1 [.slice (some ⟨W.heap.size, 0, none⟩) 1 1] rfl (Sl.of_blk (cs := #[.slice (some ⟨W.heap.size, 0, none⟩) 1 1]) (t := 51) (by (have h := Blk.new (W.alloc (.cells #[.int .i64 0] 2)) 51 #[.slice (some ⟨W.heap.size, 0, none⟩) 1 1]; simp only [World.size_alloc] at h; exact h)) (by simp)) (by simp [Value.oneCell']) (by decide) (by decide) ?_ ?_; (simp; omega); intro v5 w5 hown hg hv hnil; obtain ⟨g5, c5, rfl, hg5, hl5, hc5⟩ := own_some hown (by decide); have hu5 := (Upd.refl [] _).grown hg (fun k hk => by cases hk); have hB5 := (((hBn.alloc (.cells #[.int .i64 0] 2)).alloc (.cells #[.slice (some ⟨W.heap.size, 0, none⟩) 1 1] 51)).drew).upd hu5 (by simp); have hV5 := (((Blk.new W 2 #[.int .i64 0]).alloc (.cells #[.slice (some ⟨W.heap.size, 0, none⟩) 1 1] 51)).drew).upd hu5 (by simp); have q1 : w5.cell? ⟨nb, 2, none⟩ = some (.slice none 0 0) := (by simpa using hB5.cell 2); have q2 := hB5.froz 2))
  all_goals
    have hU : Upd [nb] W (w5.setCell ⟨nb, 2, none⟩ (.slice (some ⟨g5, 0, none⟩) 1 c5)) := (Upd.trans (by repeat (first | exact Upd.refl _ _ | apply Upd.drew | apply Upd.alloc)) (hu5.mono (by simp))).setCell (.inl (by simp)) _
    have hBs := hB5.set 2 (.slice (some ⟨g5, 0, none⟩) 1 c5)
    have hf2 := hBf.upd hU (by simpa using hne)
    have hown2 := own_upd hown ((Upd.refl [nb] w5).setCell (p := ⟨nb, 2, none⟩) (.inl (by simp)) (.slice (some ⟨g5, 0, none⟩) 1 c5)) (by rintro g ⟨⟩; have := hBn.lt; simp; omega)
    have hV2 := hV5.far (p := ⟨nb, 2, none⟩) (by have := hBn.lt; simp; omega) (.slice (some ⟨g5, 0, none⟩) 1 c5)
    have hs2 := HF.out.upd (hU.mono (by simp))
    generalize w5.setCell ⟨nb, 2, none⟩ (.slice (some ⟨g5, 0, none⟩) 1 c5) = W6 at *
    simp at hBs
    have m3 := hf2.cell 3
    simp at m3
    go_wp2_with fail
    rw [rounds_succ]
    go_wp2_with fail
    refine wp_loop_rounds 1 ?_
    rw [rounds_succ]
    go_wp2_with fail
    go_ret2
    refine ⟨nb, f, _, c1, _, c5, _, 1, rfl, hnb, hf, hBs, hf2, hs2.less (by intro x hx; exact List.mem_cons_of_mem _ hx), hc1, Sl.of_own _ hown2 hRW, hc5, (Sl.of_blk hV2 (fun hx => Nat.lt_irrefl _ (hRW _ hx))), by decide, hu2.then hU (by simp [hnb])⟩
end Go.Proofs.YtmmkeaokhbmgoaaGreatDoor
