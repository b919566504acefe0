/-
  WALKS: the bank's New, Balance, Supply, Mint.
-/
import Derived.Test.YtcldbipipehedaaBk3
import Derived.Deep.RegionHeld3
import Derived.Deep.DrawnRows
import Derived.Deep.RegionWith
namespace Go.Proofs.Ytcldbipipehedaa
open Go.RowKit Go.ChangeMaps

structure BkS where
  bal : List UInt8 → List UInt8 → Nat
  sup : List UInt8 → Nat
/-- block b is a bank with maps in blocks mb and ms, of at most n entries each -/
structure Bk (w : World) (b mb ms n : Nat) (s : BkS) : Prop where
  blk : w.heap[b]? = some (.cells #[.map (some mb), .map (some ms)] 83 (0, 0))
  mp : MapP w mb n s.bal
  su : MapS w ms n s.sup
  ne : mb ≠ ms
theorem MapP.not_cells {w : World} {b n : Nat} {f : List UInt8 → List UInt8 → Nat} (h : MapP w b n f) {c : Array Value} {T : TypeId} {g : Nat × Nat} {a : Nat} (hc : w.heap[a]? = some (.cells c T g)) : a ≠ b := by
  rintro rfl
  obtain ⟨D, ⟨es, clock, hb, _⟩, _⟩ := h
  rw [hc] at hb; cases hb
theorem MapS.not_cells {w : World} {b n : Nat} {f : List UInt8 → Nat} (h : MapS w b n f) {c : Array Value} {T : TypeId} {g : Nat × Nat} {a : Nat} (hc : w.heap[a]? = some (.cells c T g)) : a ≠ b := by
  rintro rfl
  obtain ⟨D, ⟨es, clock, hb, _⟩, _⟩ := h
  rw [hc] at hb; cases hb
theorem Bk.cells {w : World} {b mb ms n : Nat} {s : BkS} (h : Bk w b mb ms n s) : w.cell? ⟨b, 0, none⟩ = some (.map (some mb)) ∧ w.cell? ⟨b, 1, none⟩ = some (.map (some ms)) := by
  constructor <;> rw [cell_blk h.blk] <;> rfl
theorem Bk.keepS {w w' : World} {S : Nat → Prop} {b mb ms n : Nat} {s : BkS} (h : Bk w b mb ms n s) (k : Keeps S w w') (hb : ¬ S b) (hp : ¬ S mb) (hs : ¬ S ms) : Bk w' b mb ms n s :=
  ⟨k.kept h.blk hb, h.mp.keepS k hp, h.su.keepS k hs, h.ne⟩
theorem Bk.keep {w w' : World} {b mb ms n : Nat} {s : BkS} (h : Bk w b mb ms n s) (k : New w w') : Bk w' b mb ms n s := h.keepS k (fun h => h) (fun h => h) (fun h => h)
theorem Bk.mono {w : World} {b mb ms n m : Nat} {s : BkS} (h : Bk w b mb ms n s) (hm : n ≤ m) : Bk w b mb ms m s := ⟨h.blk, h.mp.mono hm, h.su.mono hm, h.ne⟩
theorem Bk.drew {w : World} {b mb ms n : Nat} {s : BkS} (h : Bk w b mb ms n s) : Bk w.drew b mb ms n s := ⟨h.blk, h.mp, h.su, h.ne⟩
theorem Bk.u64b {w : World} {b mb ms n : Nat} {s : BkS} (h : Bk w b mb ms n s) (d a : List UInt8) : U64 (s.bal d a) := h.mp.u64 d a
theorem Bk.u64s {w : World} {b mb ms n : Nat} {s : BkS} (h : Bk w b mb ms n s) (d : List UInt8) : U64 (s.sup d) := h.su.u64 d
def emptyB : BkS := ⟨fun _ _ => 0, fun _ => 0⟩
theorem newB_any (w : World) :
    Calls Try.prog 19 #[] w fun e w' => e = .returned (.pointer (some ⟨w.heap.size + 2, 0, none⟩)) ∧ Bk w' (w.heap.size + 2) w.heap.size (w.heap.size + 1) 0 emptyB ∧ New w w' := by
  have hmm := @run_makeMap Try.prog
  go_enter Try.func19, Try.ntmps19
  go_wp2
  go_ret
  have n1 : New w (w.alloc (.map #[] 0)) := (New.refl w).alloc _
  have n2 : New (w.alloc (.map #[] 0)) ((w.alloc (.map #[] 0)).alloc (.map #[] 0)) := (New.refl _).alloc _
  have n3 : New ((w.alloc (.map #[] 0)).alloc (.map #[] 0)) (((w.alloc (.map #[] 0)).alloc (.map #[] 0)).alloc (.cells #[.map (some w.heap.size), .map (some (w.heap.size + 1))] 83)) := (New.refl _).alloc _
  have s2 := MapS.made (w.alloc (.map #[] 0))
  have b3 := heap_alloc_new ((w.alloc (.map #[] 0)).alloc (.map #[] 0)) (.cells #[.map (some w.heap.size), .map (some (w.heap.size + 1))] 83)
  simp only [World.size_alloc] at s2 b3
  refine ⟨rfl, ⟨b3, ((MapP.made w).keepS n2 (fun h => h)).keepS n3 (fun h => h), s2.keepS n3 (fun h => h), by omega⟩, (n1.then n2 (fun _ h => h.elim)).then n3 (fun _ h => h.elim)⟩
theorem bal_any (b mb ms n : Nat) (s : BkS) (d a : List UInt8) (hd : d.length ≤ 9223372036854775807) (ha : a.length ≤ 9223372036854775807) (w : World) (h : Bk w b mb ms n s) :
    Calls Try.prog 34 #[.pointer (some ⟨b, 0, none⟩), .string ⟨a.toArray⟩, .string ⟨d.toArray⟩] w fun e w' => e = .returned (.int .u64 (s.bal d a)) ∧ w = w' := by
  have hc := h.cells.1
  have hL := h.mp.look (d := d) (a := a) (by unfold maxLen; omega) (by unfold maxLen; omega)
  unfold plV at hL
  clear h
  go_enter Try.func34, Try.ntmps34
  go_wp2
  go_ret
  exact ⟨rfl, rfl⟩
theorem sup_any (b mb ms n : Nat) (s : BkS) (d : List UInt8) (hd : d.length ≤ 9223372036854775807) (w : World) (h : Bk w b mb ms n s) :
    Calls Try.prog 32 #[.pointer (some ⟨b, 0, none⟩), .string ⟨d.toArray⟩] w fun e w' => e = .returned (.int .u64 (s.sup d)) ∧ w = w' := by
  have hc := h.cells.2
  have hL := h.su.look (d := d) (by unfold maxLen; omega)
  clear h
  go_enter Try.func32, Try.ntmps32
  go_wp2
  go_ret
  exact ⟨rfl, rfl⟩
theorem strs_new (w : World) (l : List (List UInt8)) (T : TypeId) : StrsAt (w.alloc (.cells (l.map fun x => Value.string ⟨x.toArray⟩).toArray T)) w.heap.size l := by
  intro i x hx
  rw [cell_blk (heap_alloc_new w _)]
  simp [hx]
theorem chk_zero {v : Nat} {d : List UInt8} {xs : List (List UInt8)} (h : chkE v d xs = 0) : v ≠ 0 ∧ 1 ≤ d.length ∧ d.length ≤ 128 ∧ ∀ a ∈ xs, 1 ≤ a.length ∧ a.length ≤ 32 := by
  unfold chkE at h
  split at h
  · rename_i hc
    simp only [Bool.and_eq_true, List.all_eq_true] at hc
    unfold okN at hc
    simp only [Bool.and_eq_true, decide_eq_true_eq] at hc
    split at h
    · cases h
    · rename_i hv
      exact ⟨hv, by omega, by omega, fun a ha => by have := hc.2 a ha; omega⟩
  · cases h
/-- what is left of 'm[k] += v' to be said -/
theorem MapP.turn2 {w : World} {b n : Nat} {f : List UInt8 → List UInt8 → Nat} (h : MapP w b n f) {d a : List UInt8} (hd : d.length ≤ maxLen) (ha : a.length ≤ maxLen) (hn : n < maxLen) {v : Nat} (hv : U64 v) :
    ∃ (st : Nat) (wE w' : World), (Instr.mapEntry 80 (.map (some b)) (.agg #[.string ⟨d.toArray⟩, .string ⟨a.toArray⟩])).run Try.prog w = .ok (.tuple #[.int .u64 (f d a), .int .i64 st]) wE ∧
      (Instr.lookup 80 (.map (some b)) (.agg #[.string ⟨d.toArray⟩, .string ⟨a.toArray⟩]) false).run Try.prog w = .ok (.int .u64 (f d a)) w ∧
      (Instr.lookup 80 (.map (some b)) (.agg #[.string ⟨d.toArray⟩, .string ⟨a.toArray⟩]) false).run Try.prog wE = .ok (.int .u64 (f d a)) wE ∧
      (Instr.entryStore 80 (.map (some b)) (.int .i64 st) (.int .u64 v)).run Try.prog wE = .ok () w' ∧ MapP w' b (n + 1) (upd2 f d a v) ∧ w.grownBy w' (some b) ∧ ∀ p : Addr, p.block ≠ b → wE.cell? p = w.cell? p := by
  have hb := h.lt
  obtain ⟨st, o, e1, e2, e3, e4⟩ := h.turn hd ha hn
  obtain ⟨w', s1, s2, s3⟩ := e4 v hv
  refine ⟨st, _, w', e1, e2, e3, s1, s2, s3, fun p hp => World.cell?_of_block ?_⟩
  unfold setBlock
  simp [Ne.symm hp]
theorem Bk.bals {w w' : World} {b mb ms n : Nat} {s : BkS} (h : Bk w b mb ms n s) (hg : w.grownBy w' (some mb)) {f : List UInt8 → List UInt8 → Nat} (hm : MapP w' mb (n + 1) f) : Bk w' b mb ms (n + 1) ⟨f, s.sup⟩ :=
  have k : Keeps (fun k => k = mb) w w' := (Keeps.refl _ w).grown hg (fun k hk => .inl (by injection hk with hk; exact hk.symm))
  ⟨k.kept h.blk (h.mp.not_cells h.blk), hm, (h.su.keepS k (fun e => h.ne e.symm)).mono (by omega), h.ne⟩
theorem Bk.sups {w w' : World} {b mb ms n : Nat} {s : BkS} (h : Bk w b mb ms n s) (hg : w.grownBy w' (some ms)) {f : List UInt8 → Nat} (hm : MapS w' ms (n + 1) f) : Bk w' b mb ms (n + 1) ⟨s.bal, f⟩ :=
  have k : Keeps (fun k => k = ms) w w' := (Keeps.refl _ w).grown hg (fun k hk => .inl (by injection hk with hk; exact hk.symm))
  ⟨k.kept h.blk (h.su.not_cells h.blk), (h.mp.keepS k h.ne).mono (by omega), hm, h.ne⟩

def mintE (s : BkS) (a d : List UInt8) (v : Nat) : Int := if chkE v d [a] = 0 then (if overA (s.sup d) v then 101 else 0) else chkE v d [a]
def mintS (s : BkS) (a d : List UInt8) (v : Nat) : BkS := if mintE s a d v = 0 then ⟨upd2 s.bal d a (addM (s.bal d a) v), upd1 s.sup d (s.sup d + v)⟩ else s
/-- the blocks that a bank's methods may turn -/
def Two (mb ms : Nat) : Nat → Prop := fun k => k = mb ∨ k = ms
set_option maxHeartbeats 2000000 in
set_option maxRecDepth 100000 in
theorem mint_any (b mb ms n : Nat) (s : BkS) (a d : List UInt8) (v : Nat) (hv : U64 v) (hn : n ≤ 1000000) (w : World) (h : Bk w b mb ms n s) :
    Calls Try.prog 21 #[.pointer (some ⟨b, 0, none⟩), .string ⟨a.toArray⟩, .string ⟨d.toArray⟩, .int .u64 v] w fun e w' => e = .returned (.int .i64 (mintE s a d v)) ∧ Bk w' b mb ms (n + 2) (mintS s a d v) ∧ Keeps (Two mb ms) w w' := by
  have n1 : New w (w.alloc (.cells #[.string ⟨a.toArray⟩] 9)) := (New.refl w).alloc _
  have h1 := h.keep n1
  have hs := strs_new w [a] 9
  have CK := check_any v d [a] 1 w.heap.size 1 rfl (by omega) (w.alloc (.cells #[.string ⟨a.toArray⟩] 9)) hs
  have k1 : Keeps (Two mb ms) w (w.alloc (.cells #[.string ⟨a.toArray⟩] 9)) := (Keeps.refl _ w).alloc _
  by_cases hc : chkE v d [a] = 0
  · obtain ⟨-, hd1, hd2, ha⟩ := chk_zero hc
    have ha := (ha a (by simp)).2
    have hE : mintE s a d v = if overA (s.sup d) v then 101 else 0 := by unfold mintE; rw [if_pos hc]
    rw [hc] at CK
    have AD := fun w => add_any (s.sup d) v (h.u64s d) hv w
    have hL := h1.su.look (d := d) (by unfold maxLen; omega)
    have cc := h1.cells
    by_cases ho : overA (s.sup d) v = true
    · have HR : Hid (mintE s a d v = 101) := by rw [Hid, hE, if_pos ho]
      have HS : Hid (mintS s a d v = s) := by rw [Hid]; unfold mintS; rw [HR.out]; rfl
      rw [ho] at AD
      clear hE hc ho hs
      generalize mintE s a d v = out at *
      generalize mintS s a d v = s' at *
      generalize s.sup d = y at *
      go_enter Try.func21, Try.ntmps21
      go_wp2_with fail
      generalize World.alloc w _ = W at *
      generalize w.heap.size = G at *
      refine CK.mono ?_
      rintro e w' ⟨rfl, rfl⟩
      go_wp2_with fail
      refine (AD _).mono ?_
      rintro e w' ⟨rfl, rfl⟩
      go_wp2_with fail
      go_ret
      exact ⟨by rw [HR.out]; rfl, by rw [HS.out]; exact h1.mono (by omega), k1⟩
    · have ho2 : overA (s.sup d) v = false := by simpa using ho
      have HR : Hid (mintE s a d v = 0) := by rw [Hid, hE, if_neg ho]
      have HS : Hid (mintS s a d v = ⟨upd2 s.bal d a (addM (s.bal d a) v), upd1 s.sup d (s.sup d + v)⟩) := by rw [Hid]; unfold mintS; rw [if_pos HR.out]
      have hsum : U64 (s.sup d + v) := by unfold overA at ho2; simp at ho2; show _ < _; omega
      rw [ho2] at AD
      obtain ⟨w2, hU, hm2, hg2⟩ := h1.su.put (d := d) (by unfold maxLen; omega) hsum (by unfold maxLen; omega)
      have h2 := h1.sups hg2 hm2
      have k2 : Keeps (Two mb ms) w w2 := k1.grown hg2 (fun k hk => .inl (.inr (by injection hk with hk; exact hk.symm)))
      have hx := addM_wrap (s.bal d a) v
      obtain ⟨st, wE, w3, e1, e2, e3, e4, hm3, hg3, hce⟩ := h2.drew.mp.turn2 (d := d) (a := a) (by unfold maxLen; omega) (by unfold maxLen; omega) (by unfold maxLen; omega) (addM_u (s.bal d a) v)
      have h3 := h2.drew.bals hg3 hm3
      have k3 : Keeps (Two mb ms) w w3 := k2.drew.grown hg3 (fun k hk => .inl (.inl (by injection hk with hk; exact hk.symm)))
      have H3 := Lib.hid h3
      have K3 := Lib.hid k3
      have cE := (hce ⟨b, 0, none⟩ (h2.mp.not_cells h2.blk)).trans h2.drew.cells.1
      have c3 := h3.cells.1
      have c2 := h2.cells
      clear hE hc ho ho2 hs hg3 hm3 hg2 hm2 k3 h3 hce hsum k2 k1
      simp only at e1 e2 e3
      generalize mintE s a d v = out at *
      generalize mintS s a d v = s' at *
      generalize upd2 s.bal d a (addM (s.bal d a) v) = f2 at *
      generalize addM (s.bal d a) v = z at *
      generalize s.bal d a = x at *
      generalize upd1 s.sup d (s.sup d + v) = f1 at *
      generalize s.sup d + v = yv at *
      generalize s.sup d = y at *
      go_enter Try.func21, Try.ntmps21
      go_wp2_with fail
      generalize World.alloc w _ = W at *
      generalize w.heap.size = G at *
      refine CK.mono ?_
      rintro e w' ⟨rfl, rfl⟩
      clear CK
      go_wp2_with fail
      refine (AD _).mono ?_
      rintro e w' ⟨rfl, rfl⟩
      clear AD
      go_wp2_with fail
      refine wp_region_held_drew (S := (fun w' => w'.cell? ⟨b, 0, none⟩ = some (.map (some mb)))) (by kernel_rfl) ?_ (fun hHeld => ?_)
      · exact h2.drew.cells.1
      refine wpAnyH_take (i := 0) (oi := ⟨some 39, _, _, _, _, _⟩) (v := ?_) rfl (by kernel_rfl) (by kernel_rfl) (by kernel_rfl) (fun _ _ _ h => h) (Or.inl ⟨by rfl, ?_⟩) (by assumption) ?_
      rotate_left
      · (intro wq hSw; (try dsimp only at hSw); go_simp; try with_reducible rfl)
      try simp only [Act.put, List.setIfInBounds_toArray, List.set_cons_zero, List.set_cons_succ]
      refine wpAnyH_take (i := 1) (oi := ⟨some 40, _, _, _, _, _⟩) (v := ?_) rfl (by kernel_rfl) (by kernel_rfl) (by kernel_rfl) (fun _ _ _ h => h) (Or.inl ⟨by rfl, ?_⟩) (by assumption) ?_
      rotate_left
      · (intro wq hSw; (try dsimp only at hSw); go_simp; try with_reducible rfl)
      try simp only [Act.put, List.setIfInBounds_toArray, List.set_cons_zero, List.set_cons_succ]
      refine wpAnyH_take (i := 2) (oi := ⟨some 41, _, _, _, _, _⟩) (v := ?_) rfl (by kernel_rfl) (by kernel_rfl) (by kernel_rfl) (fun _ _ _ h => h) (Or.inl ⟨by rfl, ?_⟩) (by assumption) ?_
      rotate_left
      · (intro wq hSw; (try dsimp only at hSw); go_simp; try with_reducible rfl)
      try simp only [Act.put, List.setIfInBounds_toArray, List.set_cons_zero, List.set_cons_succ]
      refine wpAnyH_take (i := 3) (oi := ⟨some 42, _, _, _, _, _⟩) (v := ?_) rfl (by kernel_rfl) (by kernel_rfl) (by kernel_rfl) (fun _ _ _ h => h) (Or.inl ⟨by rfl, ?_⟩) (by assumption) ?_
      rotate_left
      · (intro wq hSw; (try dsimp only at hSw); go_simp; try with_reducible rfl)
      try simp only [Act.put, List.setIfInBounds_toArray, List.set_cons_zero, List.set_cons_succ]
      refine wpAnyH_take (i := 4) (oi := ⟨some 43, _, _, _, _, _⟩) (v := ?_) rfl (by kernel_rfl) (by kernel_rfl) (by kernel_rfl) (fun _ _ _ h => h) (Or.inl ⟨by rfl, ?_⟩) (by assumption) ?_
      rotate_left
      · (intro wq hSw; (try dsimp only at hSw); go_simp; try with_reducible rfl)
      try simp only [Act.put, List.setIfInBounds_toArray, List.set_cons_zero, List.set_cons_succ]
      refine wpAnyH_take (i := 5) (oi := ⟨some 44, _, _, _, _, _⟩) (v := ?_) rfl (by kernel_rfl) (by kernel_rfl) (by kernel_rfl) (fun _ _ _ h => h) (Or.inl ⟨by rfl, ?_⟩) (by assumption) ?_
      rotate_left
      · (intro wq hSw; (try dsimp only at hSw); go_simp; try with_reducible rfl)
      try simp only [Act.put, List.setIfInBounds_toArray, List.set_cons_zero, List.set_cons_succ]
      refine wpAnyH_take (i := 6) (oi := ⟨some 45, _, _, _, _, _⟩) (v := ?_) rfl (by kernel_rfl) (by kernel_rfl) (by kernel_rfl) (fun _ _ _ h => h) (Or.inl ⟨by rfl, ?_⟩) (by assumption) ?_
      rotate_left
      · (intro wq hSw; (try dsimp only at hSw); go_simp; try with_reducible rfl)
      try simp only [Act.put, List.setIfInBounds_toArray, List.set_cons_zero, List.set_cons_succ]
      refine wpAnyH_take (i := 8) (oi := ⟨some 47, _, _, _, _, _⟩) (v := ?_) rfl (by kernel_rfl) (by kernel_rfl) (by kernel_rfl) (fun _ _ _ h => h) (Or.inl ⟨by rfl, ?_⟩) (by assumption) ?_
      rotate_left
      · (intro wq hSw; (try dsimp only at hSw); go_simp; try with_reducible rfl)
      try simp only [Act.put, List.setIfInBounds_toArray, List.set_cons_zero, List.set_cons_succ]
      refine wpAnyH_ready (rs := [7, 10]) (by kernel_rfl) (by simp) ?_
      refine AllReadyH.cons (o := ⟨some 46, _, _, _, _, _⟩) rfl (fun K hK => ?_) (AllReadyH.cons (o := ⟨some 49, _, _, _, _, _⟩) rfl (fun K hK => ?_) AllReadyH.nil)
      focus
        go_simp
        refine hK.out _ _ hHeld (fun hHeld => ?_)
        clear hK K
        try simp only [Act.put, List.setIfInBounds_toArray, List.set_cons_zero, List.set_cons_succ]
        refine wpAnyH_take (i := 9) (oi := ⟨some 48, _, _, _, _, _⟩) (v := ?_) rfl (by kernel_rfl) (by kernel_rfl) (by kernel_rfl) (fun _ _ _ h => h) (Or.inl ⟨by rfl, ?_⟩) (by assumption) ?_
        rotate_left
        · (intro wq hSw; (try dsimp only at hSw); go_simp; try with_reducible rfl)
        try simp only [Act.put, List.setIfInBounds_toArray, List.set_cons_zero, List.set_cons_succ]
        refine wpAnyH_ready (rs := [10]) (by kernel_rfl) (by simp) ?_
        refine AllReadyH.cons (o := ⟨some 49, _, _, _, _, _⟩) rfl (fun K hK => ?_) AllReadyH.nil
        go_simp
        refine hK.out _ _ (cE) (fun hHeld => ?_)
        clear hK K
        try simp only [Act.put, List.setIfInBounds_toArray, List.set_cons_zero, List.set_cons_succ]
        refine wpAnyH_take (i := 11) (oi := ⟨some 50, _, _, _, _, _⟩) (v := ?_) rfl (by kernel_rfl) (by kernel_rfl) (by kernel_rfl) (fun _ _ _ h => h) (Or.inl ⟨by rfl, ?_⟩) (by assumption) ?_
        rotate_left
        · (intro wq hSw; (try dsimp only at hSw); go_simp; try with_reducible rfl)
        try simp only [Act.put, List.setIfInBounds_toArray, List.set_cons_zero, List.set_cons_succ]
        refine wpAnyH_ready (rs := [12]) (by kernel_rfl) (by simp) ?_
        refine AllReadyH.cons (o := ⟨none, _, _, _, _, _⟩) rfl (fun K hK => ?_) AllReadyH.nil
        go_simp
        refine hK.out _ _ (c3) (fun hHeld => ?_)
        clear hK K
        try simp only [Act.put, List.setIfInBounds_toArray, List.set_cons_zero, List.set_cons_succ]
        refine wpAnyH_done (by kernel_rfl) ?_ _
      rotate_left 1
      focus
        go_simp
        refine hK.out _ _ (cE) (fun hHeld => ?_)
        clear hK K
        try simp only [Act.put, List.setIfInBounds_toArray, List.set_cons_zero, List.set_cons_succ]
        refine wpAnyH_take (i := 11) (oi := ⟨some 50, _, _, _, _, _⟩) (v := ?_) rfl (by kernel_rfl) (by kernel_rfl) (by kernel_rfl) (fun _ _ _ h => h) (Or.inl ⟨by rfl, ?_⟩) (by assumption) ?_
        rotate_left
        · (intro wq hSw; (try dsimp only at hSw); go_simp; try with_reducible rfl)
        try simp only [Act.put, List.setIfInBounds_toArray, List.set_cons_zero, List.set_cons_succ]
        refine wpAnyH_ready (rs := [7]) (by kernel_rfl) (by simp) ?_
        refine AllReadyH.cons (o := ⟨some 46, _, _, _, _, _⟩) rfl (fun K hK => ?_) AllReadyH.nil
        go_simp
        refine hK.out _ _ hHeld (fun hHeld => ?_)
        clear hK K
        try simp only [Act.put, List.setIfInBounds_toArray, List.set_cons_zero, List.set_cons_succ]
        refine wpAnyH_take (i := 9) (oi := ⟨some 48, _, _, _, _, _⟩) (v := ?_) rfl (by kernel_rfl) (by kernel_rfl) (by kernel_rfl) (fun _ _ _ h => h) (Or.inl ⟨by rfl, ?_⟩) (by assumption) ?_
        rotate_left
        · (intro wq hSw; (try dsimp only at hSw); go_simp; try with_reducible rfl)
        try simp only [Act.put, List.setIfInBounds_toArray, List.set_cons_zero, List.set_cons_succ]
        refine wpAnyH_ready (rs := [12]) (by kernel_rfl) (by simp) ?_
        refine AllReadyH.cons (o := ⟨none, _, _, _, _, _⟩) rfl (fun K hK => ?_) AllReadyH.nil
        go_simp
        refine hK.out _ _ (c3) (fun hHeld => ?_)
        clear hK K
        try simp only [Act.put, List.setIfInBounds_toArray, List.set_cons_zero, List.set_cons_succ]
        refine wpAnyH_done (by kernel_rfl) ?_ _
      rotate_left 1
      all_goals
        go_wp2_with fail
        go_ret
        exact ⟨by rw [HR.out]; rfl, by rw [HS.out]; exact H3.out, K3.out⟩
  · have HR : Hid (mintE s a d v = chkE v d [a]) := by rw [Hid]; unfold mintE; rw [if_neg hc]
    have HS : Hid (mintS s a d v = s) := by rw [Hid]; unfold mintS; rw [HR.out, if_neg hc]
    have e0 : (chkE v d [a] == 0) = false := by simpa using hc
    have e1 : (chkE v d [a] != 0) = true := by simpa using hc
    clear hc hs
    generalize mintE s a d v = out at *
    generalize mintS s a d v = s' at *
    generalize chkE v d [a] = c at *
    go_enter Try.func21, Try.ntmps21
    go_wp2_with fail
    generalize World.alloc w _ = W at *
    generalize w.heap.size = G at *
    refine CK.mono ?_
    rintro e w' ⟨rfl, rfl⟩
    go_wp2_with fail
    go_ret
    exact ⟨by rw [HR.out]; rfl, by rw [HS.out]; exact h1.mono (by omega), k1⟩
end Go.Proofs.Ytcldbipipehedaa
