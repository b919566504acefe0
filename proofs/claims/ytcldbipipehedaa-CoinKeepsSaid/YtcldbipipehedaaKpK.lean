/-
  voussoirlaw19.Keeps of two banks that keep what is kept.
-/
import Derived.Test.YtcldbipipehedaaKpW
import Derived.Deep.RegionHeld3
import Derived.Deep.DrawnRows
import Derived.Deep.RegionWith
namespace Go.Proofs.Ytcldbipipehedaa
open Go.RowKit Go.ChangeMaps
theorem und_le_amt {l : List Wy} {j : Nat} {x : Wy} (hx : l[j]? = some x) (side : Nat) (d v : List UInt8) : und (l.take (j + 1)) side d v = und (l.take j) side d v + cnt side d v x ∧ und (l.take (j + 1)) side d v ≤ und l side d v :=
  ⟨und_take l j x hx side d v, und_le l (j + 1) side d v⟩
theorem vchr_len (o k : Nat) (ho : o < 2) : (vchr o k).length ≤ 1000 := by
  have h1 := (owL_four o k).2
  have h2 := traceL_len (c := 2 - o) (by show _ < _; omega)
  unfold vchr vouL
  rw [List.length_append]; omega
set_option maxHeartbeats 16000000 in
set_option maxRecDepth 100000 in
theorem keepsL_any (P : Nat → Nat) (G n : Nat) (s : Nat → BkS) (v0 : Value) (l : List Wy) (much : Nat) (hmu : much < 18446744073709551616) (hI : KI s l much) (hll : l.length ≤ 1000) (w0 w : World) (h : Prs w0 w P n s) (hG : bL w G P) (hl : Wys w0 w v0 l) :
    Calls Try.prog 38 #[.slice (some ⟨G, 0, none⟩) 2 2, v0, .int .u64 (much : Nat)] w fun e w' => e = .returned (.bool true) ∧ New w w' := by
  obtain ⟨la, lc, hv0, hlne⟩ := hl.shape
  subst hv0
  obtain ⟨ln, hlen⟩ : ∃ q, q = l.length := ⟨_, rfl⟩
  rw [← hlen] at hl ⊢
  have hl2 : l.length ≤ ln := by omega
  have hl3 : ln ≤ l.length := by omega
  have hl4 : ln ≤ 1000 := by omega
  clear hlen
  go_enter Try.func38, Try.ntmps38
  go_wp2_with fail
  go_loopw [7] (fun i wr => (i = .int .i64 0 ∨ i = .int .i64 1 ∨ i = .int .i64 2) ∧ New w wr) (fun i _ => 2 - (intOf i).toNat)
  case atStart => exact ⟨.inl rfl, New.refl w⟩
  case round =>
    obtain ⟨hi, hn⟩ := hrel
    rcases hi with rfl | rfl | rfl
    case inr.inr =>
      go_wp2_with fail
      go_ret
      exact ⟨rfl, hn⟩
    case inl =>
      have hkk : ∀ k, k < 2 → kept (s 0) (s 1) l 0 k much := fun k hk => hI.1 0 k (by omega) hk
      go_wp2_with fail
      go_loopw [10] (fun i wr => ∃ k : Nat, k ≤ 2 ∧ i = .int .i64 k ∧ New w wr) (fun i _ => 2 - (intOf i).toNat)
      case atStart => exact ⟨0, by omega, rfl, hn⟩
      case round =>
        clear hn
        obtain ⟨k, hk, rfl, hn⟩ := hrel
        have hk0 : (0 : Int) ≤ (k : Int) := Int.natCast_nonneg _
        by_cases hk2 : k < 2
        · have kI : I64 (k : Int) := ⟨by omega, by omega⟩
          have OW := fun w => own_any 0 (by omega) (k : Int) kI w
          have hkp := hkk (pk (k : Int) 2) (pk_lt _ 2 (by omega))
          have hd4 := (owL_four 0 (pk (k : Int) 2)).2
          have hv4 := vchr_len 0 (pk (k : Int) 2) (by omega)
          have VO : ∀ w, Calls Try.prog 16 #[.int .u64 2, .string ⟨(owL 0 (pk (k : Int) 2)).toArray⟩] w fun e w' => e = .returned (.string ⟨(vchr 0 (pk (k : Int) 2)).toArray⟩) ∧ New w w' := fun w => vou_any 2 (by show _ < _; decide) (owL 0 (pk (k : Int) 2)) (by omega) w
          have ES : ∀ w, Calls Try.prog 18 #[.int .u64 1] w fun e w' => e = .returned (.string ⟨(escL 1).toArray⟩) ∧ New w w' := fun w => esc_any 1 (by show _ < _; decide) w
          have el : (escL 1).length ≤ 32 := (esc_len (o := 0) (by omega)).2
          obtain ⟨q1, q2, -, q4⟩ := hkp
          replace q4 : (s 0).bal (owL 0 (pk (k : Int) 2)) (escL 1) = (s 1).sup (vchr 0 (pk (k : Int) 2)) + und l 0 (owL 0 (pk (k : Int) 2)) (vchr 0 (pk (k : Int) 2)) := q4
          replace q1 : (s 0).bal (owL 0 (pk (k : Int) 2)) (escL 1) ≤ much := by have : t3 (s 0) (owL 0 (pk (k : Int) 2)) + (s 0).bal (owL 0 (pk (k : Int) 2)) (escL 1) = much := q1; omega
          clear hkk
          generalize escL 1 = ec at *
          generalize owL 0 (pk (k : Int) 2) = d at *
          generalize vchr 0 (pk (k : Int) 2) = v at *
          rw [q4] at q1
          go_wp2_with fail
          refine (OW _).mono ?_
          rintro e z1 ⟨rfl, y1⟩
          have n1 := hn.then y1 (fun _ h => h.elim)
          clear hn y1
          go_wp2_with fail
          refine (VO _).mono ?_
          rintro e z2 ⟨rfl, y2⟩
          have n2 := n1.then y2 (fun _ h => h.elim)
          clear n1 y2 OW VO
          have cG := (hG.keep n2).cell (o := 1) (by omega)
          have hS := ((h.keep n2).sg (o := 1) (by omega)).sup v (by omega)
          go_wp2_with fail
          refine hS.mono ?_
          rintro e z3 ⟨rfl, rfl⟩
          clear cG hS
          go_wp2_with fail
          go_loopw [13, 14] (fun sm i wr => ∃ j : Nat, j ≤ ln ∧ i = .int .i64 j ∧ sm = .int .u64 ((s 1).sup v + und (l.take j) 0 d v : Nat) ∧ New w wr) (fun _ i _ => ln - (intOf i).toNat)
          case atStart => exact ⟨0, by omega, rfl, by simp [und], n2⟩
          case round =>
            clear n2
            obtain ⟨j, hj, rfl, rfl, hn⟩ := hrel
            have hj0 : (0 : Int) ≤ (j : Int) := Int.natCast_nonneg _
            by_cases hjl : j < ln
            · have hx : l[j]? = some l[j] := List.getElem?_eq_getElem (by omega)
              obtain ⟨ga, rfl, hga, -⟩ := hlne (by intro e; rw [e] at hl3; simp at hl3; omega)
              obtain ⟨c0, c1, c2, c3, c4, c5⟩ := Wys.at (hl.keep hn) hx
              obtain ⟨hu1, hu2⟩ := und_le_amt hx 0 d v
              obtain ⟨hfr, -⟩ := hI.2 _ (List.mem_of_getElem? hx)
              have hjl1 : (j : Int) < (ln : Int) := by omega
              have hidu := Lib.hid hu1
              have hcn : cnt 0 d v l[j] = if l[j].fr = 0 ∧ l[j].c.den = d ∨ l[j].fr ≠ 0 ∧ l[j].c.den = v then l[j].c.amt else 0 := rfl
              generalize cnt 0 d v l[j] = cn at *
              generalize l[j].fr = f at *
              generalize l[j].c.den = dn at *
              generalize l[j].c.amt = am at *
              clear hx
              have hcn2 := Lib.hid hcn
              rw [hu1] at hu2
              clear hu1 hcn
              have hb : (s 1).sup v + und (l.take j) 0 d v + cn ≤ much := by omega
              obtain ⟨S1, hS1⟩ : ∃ q, Hid ((s 1).sup v + und (l.take j) 0 d v = q) := ⟨_, rfl⟩
              rw [hS1.out] at hb ⊢
              clear hu2 q1
              rcases (by omega : f = 0 ∨ f = 1) with rfl | rfl
              · by_cases hd : dn = d
                · subst hd
                  have hc : cn = am := by rw [hcn2.out, if_pos (.inl ⟨rfl, rfl⟩)]
                  subst hc
                  have e4 : IntKind.u64.wrap ((S1 : Int) + (cn : Int)) = (S1 : Int) + (cn : Int) := IntWalk.u64_in _ ⟨by omega, by omega⟩
                  go_wp2_with fail
                  go_roundw
                  case rel => exact ⟨j + 1, by omega, by go_num, by rw [hidu.out, ← Nat.add_assoc, hS1.out, Int.natCast_add], hn⟩
                  case measure => simp [intOf]; omega
                · have e1 : (dn == d) = false := by simpa using hd
                  have hc : cn = 0 := by rw [hcn2.out, if_neg (by rintro (⟨_, e⟩ | ⟨e, _⟩); exact hd e; exact e rfl)]
                  go_wp2_with fail
                  go_roundw
                  case rel => exact ⟨j + 1, by omega, by go_num, by rw [hidu.out, hc, Nat.add_zero, hS1.out], hn⟩
                  case measure => simp [intOf]; omega
              · by_cases hd : dn = v
                · subst hd
                  have hc : cn = am := by rw [hcn2.out, if_pos (.inr ⟨by omega, rfl⟩)]
                  subst hc
                  have e4 : IntKind.u64.wrap ((S1 : Int) + (cn : Int)) = (S1 : Int) + (cn : Int) := IntWalk.u64_in _ ⟨by omega, by omega⟩
                  go_wp2_with fail
                  go_roundw
                  case rel => exact ⟨j + 1, by omega, by go_num, by rw [hidu.out, ← Nat.add_assoc, hS1.out, Int.natCast_add], hn⟩
                  case measure => simp [intOf]; omega
                · have e1 : (dn == v) = false := by simpa using hd
                  have hc : cn = 0 := by rw [hcn2.out, if_neg (by rintro (⟨e, _⟩ | ⟨_, e⟩); omega; exact hd e)]
                  go_wp2_with fail
                  go_roundw
                  case rel => exact ⟨j + 1, by omega, by go_num, by rw [hidu.out, hc, Nat.add_zero, hS1.out], hn⟩
                  case measure => simp [intOf]; omega
            · obtain rfl : j = ln := by omega
              have eT : l.take j = l := List.take_of_length_le (by omega)
              rw [eT, ← q4]
              have nd := hn.drew
              have HB : ∀ z (m : New w z), _ := fun z m => ((h.keep m).sg (o := 0) (by omega)).bal d ec (by omega) (by omega)
              have HS : ∀ z (m : New w z), _ := fun z m => ((h.keep m).sg (o := 0) (by omega)).sup d (by omega)
              rw [q2] at HS
              generalize (s 0).bal d ec = BE at *
              go_wp2_with fail
              refine wp_region_held_drew (S := (fun w' => New w w')) (by kernel_rfl) ?_ (fun hHeld => ?_)
              · exact nd
              refine wpAnyH_take (i := 0) (oi := ⟨some 91, _, _, _, _, _⟩) (v := ?_) rfl (by kernel_rfl) (by kernel_rfl) (by kernel_rfl) (fun _ _ _ h => h) (Or.inl ⟨by rfl, ?_⟩) (by assumption) ?_
              rotate_left
              · (intro wq hSw; (try dsimp only at hSw); go_simp; try with_reducible rfl)
              try simp only [Act.put, List.setIfInBounds_toArray, List.set_cons_zero, List.set_cons_succ]
              refine wpAnyH_take (i := 1) (oi := ⟨some 92, _, _, _, _, _⟩) (v := ?_) rfl (by kernel_rfl) (by kernel_rfl) (by kernel_rfl) (fun _ _ _ h => h) (Or.inl ⟨by rfl, ?_⟩) (by assumption) ?_
              rotate_left
              · (intro wq hSw; (try dsimp only at hSw); go_simp; try with_reducible rfl)
              try simp only [Act.put, List.setIfInBounds_toArray, List.set_cons_zero, List.set_cons_succ]
              refine wpAnyH_take (i := 2) (oi := ⟨some 93, _, _, _, _, _⟩) (v := ?_) rfl (by kernel_rfl) (by kernel_rfl) (by kernel_rfl) (fun _ _ _ h => h) (Or.inl ⟨by rfl, ?_⟩) (by assumption) ?_
              rotate_left
              · (intro wq hSw; (try dsimp only at hSw); go_simp; try with_reducible rfl)
              try simp only [Act.put, List.setIfInBounds_toArray, List.set_cons_zero, List.set_cons_succ]
              refine wpAnyH_take (i := 3) (oi := ⟨some 94, _, _, _, _, _⟩) (v := ?_) rfl (by kernel_rfl) (by kernel_rfl) (by kernel_rfl) (fun _ _ _ h => h) (Or.inl ⟨by rfl, ?_⟩) (by assumption) ?_
              rotate_left
              · (intro wq hSw; (try dsimp only at hSw); have d := (hG.keep hSw).cell (o := 0) (by omega); go_simp; try with_reducible rfl)
              try simp only [Act.put, List.setIfInBounds_toArray, List.set_cons_zero, List.set_cons_succ]
              refine wpAnyH_take (i := 4) (oi := ⟨some 95, _, _, _, _, _⟩) (v := ?_) rfl (by kernel_rfl) (by kernel_rfl) (by kernel_rfl) (fun _ _ _ h => h) (Or.inl ⟨by rfl, ?_⟩) (by assumption) ?_
              rotate_left
              · (intro wq hSw; (try dsimp only at hSw); go_simp; try with_reducible rfl)
              try simp only [Act.put, List.setIfInBounds_toArray, List.set_cons_zero, List.set_cons_succ]
              refine wpAnyH_take (i := 6) (oi := ⟨some 97, _, _, _, _, _⟩) (v := ?_) rfl (by kernel_rfl) (by kernel_rfl) (by kernel_rfl) (fun _ _ _ h => h) (Or.inl ⟨by rfl, ?_⟩) (by assumption) ?_
              rotate_left
              · (intro wq hSw; (try dsimp only at hSw); go_simp; try with_reducible rfl)
              try simp only [Act.put, List.setIfInBounds_toArray, List.set_cons_zero, List.set_cons_succ]
              refine wpAnyH_take (i := 8) (oi := ⟨some 99, _, _, _, _, _⟩) (v := ?_) rfl (by kernel_rfl) (by kernel_rfl) (by kernel_rfl) (fun _ _ _ h => h) (Or.inl ⟨by rfl, ?_⟩) (by assumption) ?_
              rotate_left
              · (intro wq hSw; (try dsimp only at hSw); go_simp; try with_reducible rfl)
              try simp only [Act.put, List.setIfInBounds_toArray, List.set_cons_zero, List.set_cons_succ]
              refine wpAnyH_ready (rs := [5]) (by kernel_rfl) (by simp) ?_
              refine AllReadyH.cons (o := ⟨some 96, _, _, _, _, _⟩) rfl (fun K hK => ?_) AllReadyH.nil
              go_simp
              refine (ES _).mono ?_; rintro e z5 ⟨rfl, y5⟩
              refine hK.out _ _ (hHeld.then y5 (fun _ h => h.elim)) (fun hHeld => ?_)
              clear hK K
              try simp only [Act.put, List.setIfInBounds_toArray, List.set_cons_zero, List.set_cons_succ]
              refine wpAnyH_ready (rs := [7]) (by kernel_rfl) (by simp) ?_
              refine AllReadyH.cons (o := ⟨some 98, _, _, _, _, _⟩) rfl (fun K hK => ?_) AllReadyH.nil
              go_simp
              refine (HB _ hHeld).mono ?_; rintro e z7 ⟨rfl, rfl⟩
              refine hK.out _ _ hHeld (fun hHeld => ?_)
              clear hK K
              try simp only [Act.put, List.setIfInBounds_toArray, List.set_cons_zero, List.set_cons_succ]
              refine wpAnyH_take (i := 9) (oi := ⟨some 100, _, _, _, _, _⟩) (v := ?_) rfl (by kernel_rfl) (by kernel_rfl) (by kernel_rfl) (fun _ _ _ h => h) (Or.inl ⟨by rfl, ?_⟩) (by assumption) ?_
              rotate_left
              · (intro wq hSw; (try dsimp only at hSw); go_simp; try with_reducible rfl)
              try simp only [Act.put, List.setIfInBounds_toArray, List.set_cons_zero, List.set_cons_succ]
              refine wpAnyH_take (i := 10) (oi := ⟨some 101, _, _, _, _, _⟩) (v := ?_) rfl (by kernel_rfl) (by kernel_rfl) (by kernel_rfl) (fun _ _ _ h => h) (Or.inl ⟨by rfl, ?_⟩) (by assumption) ?_
              rotate_left
              · (intro wq hSw; (try dsimp only at hSw); go_simp; try with_reducible rfl)
              try simp only [Act.put, List.setIfInBounds_toArray, List.set_cons_zero, List.set_cons_succ]
              refine wpAnyH_take (i := 11) (oi := ⟨some 102, _, _, _, _, _⟩) (v := ?_) rfl (by kernel_rfl) (by kernel_rfl) (by kernel_rfl) (fun _ _ _ h => h) (Or.inl ⟨by rfl, ?_⟩) (by assumption) ?_
              rotate_left
              · (intro wq hSw; (try dsimp only at hSw); go_simp; try with_reducible rfl)
              try simp only [Act.put, List.setIfInBounds_toArray, List.set_cons_zero, List.set_cons_succ]
              refine wpAnyH_take (i := 12) (oi := ⟨some 103, _, _, _, _, _⟩) (v := ?_) rfl (by kernel_rfl) (by kernel_rfl) (by kernel_rfl) (fun _ _ _ h => h) (Or.inl ⟨by rfl, ?_⟩) (by assumption) ?_
              rotate_left
              · (intro wq hSw; (try dsimp only at hSw); go_simp; try with_reducible rfl)
              try simp only [Act.put, List.setIfInBounds_toArray, List.set_cons_zero, List.set_cons_succ]
              refine wpAnyH_take (i := 13) (oi := ⟨some 104, _, _, _, _, _⟩) (v := ?_) rfl (by kernel_rfl) (by kernel_rfl) (by kernel_rfl) (fun _ _ _ h => h) (Or.inl ⟨by rfl, ?_⟩) (by assumption) ?_
              rotate_left
              · (intro wq hSw; (try dsimp only at hSw); go_simp; try with_reducible rfl)
              try simp only [Act.put, List.setIfInBounds_toArray, List.set_cons_zero, List.set_cons_succ]
              refine wpAnyH_take (i := 14) (oi := ⟨some 105, _, _, _, _, _⟩) (v := ?_) rfl (by kernel_rfl) (by kernel_rfl) (by kernel_rfl) (fun _ _ _ h => h) (Or.inl ⟨by rfl, ?_⟩) (by assumption) ?_
              rotate_left
              · (intro wq hSw; (try dsimp only at hSw); have d := (hG.keep hSw).cell (o := 0) (by omega); go_simp; try with_reducible rfl)
              try simp only [Act.put, List.setIfInBounds_toArray, List.set_cons_zero, List.set_cons_succ]
              refine wpAnyH_take (i := 15) (oi := ⟨some 106, _, _, _, _, _⟩) (v := ?_) rfl (by kernel_rfl) (by kernel_rfl) (by kernel_rfl) (fun _ _ _ h => h) (Or.inl ⟨by rfl, ?_⟩) (by assumption) ?_
              rotate_left
              · (intro wq hSw; (try dsimp only at hSw); go_simp; try with_reducible rfl)
              try simp only [Act.put, List.setIfInBounds_toArray, List.set_cons_zero, List.set_cons_succ]
              refine wpAnyH_take (i := 17) (oi := ⟨some 108, _, _, _, _, _⟩) (v := ?_) rfl (by kernel_rfl) (by kernel_rfl) (by kernel_rfl) (fun _ _ _ h => h) (Or.inl ⟨by rfl, ?_⟩) (by assumption) ?_
              rotate_left
              · (intro wq hSw; (try dsimp only at hSw); go_simp; try with_reducible rfl)
              try simp only [Act.put, List.setIfInBounds_toArray, List.set_cons_zero, List.set_cons_succ]
              refine wpAnyH_ready (rs := [16]) (by kernel_rfl) (by simp) ?_
              refine AllReadyH.cons (o := ⟨some 107, _, _, _, _, _⟩) rfl (fun K hK => ?_) AllReadyH.nil
              go_simp
              refine (HS _ hHeld).mono ?_; rintro e z16 ⟨rfl, rfl⟩
              refine hK.out _ _ hHeld (fun hHeld => ?_)
              clear hK K
              try simp only [Act.put, List.setIfInBounds_toArray, List.set_cons_zero, List.set_cons_succ]
              refine wpAnyH_take (i := 18) (oi := ⟨some 109, _, _, _, _, _⟩) (v := ?_) rfl (by kernel_rfl) (by kernel_rfl) (by kernel_rfl) (fun _ _ _ h => h) (Or.inl ⟨by rfl, ?_⟩) (by assumption) ?_
              rotate_left
              · (intro wq hSw; (try dsimp only at hSw); go_simp; try with_reducible rfl)
              try simp only [Act.put, List.setIfInBounds_toArray, List.set_cons_zero, List.set_cons_succ]
              refine wpAnyH_take (i := 19) (oi := ⟨some 110, _, _, _, _, _⟩) (v := ?_) rfl (by kernel_rfl) (by kernel_rfl) (by kernel_rfl) (fun _ _ _ h => h) (Or.inl ⟨by rfl, ?_⟩) (by assumption) ?_
              rotate_left
              · (intro wq hSw; (try dsimp only at hSw); go_simp; try with_reducible rfl)
              try simp only [Act.put, List.setIfInBounds_toArray, List.set_cons_zero, List.set_cons_succ]
              refine wpAnyH_done (by kernel_rfl) ?_ _
              go_wp2_with fail
              go_roundw
              case rel => exact ⟨k + 1, by omega, by go_num, hHeld⟩
              case measure => simp [intOf]; omega
        · go_wp2_with fail
          go_roundw
          case rel => exact ⟨by simp, hn⟩
          case measure => simp [intOf]
    case inr.inl =>
      have hkk : ∀ k, k < 2 → kept (s 1) (s 0) l 1 k much := fun k hk => hI.1 1 k (by omega) hk
      go_wp2_with fail
      go_loopw [10] (fun i wr => ∃ k : Nat, k ≤ 2 ∧ i = .int .i64 k ∧ New w wr) (fun i _ => 2 - (intOf i).toNat)
      case atStart => exact ⟨0, by omega, rfl, hn⟩
      case round =>
        clear hn
        obtain ⟨k, hk, rfl, hn⟩ := hrel
        have hk0 : (0 : Int) ≤ (k : Int) := Int.natCast_nonneg _
        by_cases hk2 : k < 2
        · have kI : I64 (k : Int) := ⟨by omega, by omega⟩
          have OW := fun w => own_any 1 (by omega) (k : Int) kI w
          have hkp := hkk (pk (k : Int) 2) (pk_lt _ 2 (by omega))
          have hd4 := (owL_four 1 (pk (k : Int) 2)).2
          have hv4 := vchr_len 1 (pk (k : Int) 2) (by omega)
          have VO : ∀ w, Calls Try.prog 16 #[.int .u64 1, .string ⟨(owL 1 (pk (k : Int) 2)).toArray⟩] w fun e w' => e = .returned (.string ⟨(vchr 1 (pk (k : Int) 2)).toArray⟩) ∧ New w w' := fun w => vou_any 1 (by show _ < _; decide) (owL 1 (pk (k : Int) 2)) (by omega) w
          have ES : ∀ w, Calls Try.prog 18 #[.int .u64 2] w fun e w' => e = .returned (.string ⟨(escL 2).toArray⟩) ∧ New w w' := fun w => esc_any 2 (by show _ < _; decide) w
          have el : (escL 2).length ≤ 32 := (esc_len (o := 1) (by omega)).2
          obtain ⟨q1, q2, -, q4⟩ := hkp
          replace q4 : (s 1).bal (owL 1 (pk (k : Int) 2)) (escL 2) = (s 0).sup (vchr 1 (pk (k : Int) 2)) + und l 1 (owL 1 (pk (k : Int) 2)) (vchr 1 (pk (k : Int) 2)) := q4
          replace q1 : (s 1).bal (owL 1 (pk (k : Int) 2)) (escL 2) ≤ much := by have : t3 (s 1) (owL 1 (pk (k : Int) 2)) + (s 1).bal (owL 1 (pk (k : Int) 2)) (escL 2) = much := q1; omega
          clear hkk
          generalize escL 2 = ec at *
          generalize owL 1 (pk (k : Int) 2) = d at *
          generalize vchr 1 (pk (k : Int) 2) = v at *
          rw [q4] at q1
          go_wp2_with fail
          refine (OW _).mono ?_
          rintro e z1 ⟨rfl, y1⟩
          have n1 := hn.then y1 (fun _ h => h.elim)
          clear hn y1
          go_wp2_with fail
          refine (VO _).mono ?_
          rintro e z2 ⟨rfl, y2⟩
          have n2 := n1.then y2 (fun _ h => h.elim)
          clear n1 y2 OW VO
          have cG := (hG.keep n2).cell (o := 0) (by omega)
          have hS := ((h.keep n2).sg (o := 0) (by omega)).sup v (by omega)
          go_wp2_with fail
          refine hS.mono ?_
          rintro e z3 ⟨rfl, rfl⟩
          clear cG hS
          go_wp2_with fail
          go_loopw [13, 14] (fun sm i wr => ∃ j : Nat, j ≤ ln ∧ i = .int .i64 j ∧ sm = .int .u64 ((s 0).sup v + und (l.take j) 1 d v : Nat) ∧ New w wr) (fun _ i _ => ln - (intOf i).toNat)
          case atStart => exact ⟨0, by omega, rfl, by simp [und], n2⟩
          case round =>
            clear n2
            obtain ⟨j, hj, rfl, rfl, hn⟩ := hrel
            have hj0 : (0 : Int) ≤ (j : Int) := Int.natCast_nonneg _
            by_cases hjl : j < ln
            · have hx : l[j]? = some l[j] := List.getElem?_eq_getElem (by omega)
              obtain ⟨ga, rfl, hga, -⟩ := hlne (by intro e; rw [e] at hl3; simp at hl3; omega)
              obtain ⟨c0, c1, c2, c3, c4, c5⟩ := Wys.at (hl.keep hn) hx
              obtain ⟨hu1, hu2⟩ := und_le_amt hx 1 d v
              obtain ⟨hfr, -⟩ := hI.2 _ (List.mem_of_getElem? hx)
              have hjl1 : (j : Int) < (ln : Int) := by omega
              have hidu := Lib.hid hu1
              have hcn : cnt 1 d v l[j] = if l[j].fr = 1 ∧ l[j].c.den = d ∨ l[j].fr ≠ 1 ∧ l[j].c.den = v then l[j].c.amt else 0 := rfl
              generalize cnt 1 d v l[j] = cn at *
              generalize l[j].fr = f at *
              generalize l[j].c.den = dn at *
              generalize l[j].c.amt = am at *
              clear hx
              have hcn2 := Lib.hid hcn
              rw [hu1] at hu2
              clear hu1 hcn
              have hb : (s 0).sup v + und (l.take j) 1 d v + cn ≤ much := by omega
              obtain ⟨S1, hS1⟩ : ∃ q, Hid ((s 0).sup v + und (l.take j) 1 d v = q) := ⟨_, rfl⟩
              rw [hS1.out] at hb ⊢
              clear hu2 q1
              rcases (by omega : f = 1 ∨ f = 0) with rfl | rfl
              · by_cases hd : dn = d
                · subst hd
                  have hc : cn = am := by rw [hcn2.out, if_pos (.inl ⟨rfl, rfl⟩)]
                  subst hc
                  have e4 : IntKind.u64.wrap ((S1 : Int) + (cn : Int)) = (S1 : Int) + (cn : Int) := IntWalk.u64_in _ ⟨by omega, by omega⟩
                  go_wp2_with fail
                  go_roundw
                  case rel => exact ⟨j + 1, by omega, by go_num, by rw [hidu.out, ← Nat.add_assoc, hS1.out, Int.natCast_add], hn⟩
                  case measure => simp [intOf]; omega
                · have e1 : (dn == d) = false := by simpa using hd
                  have hc : cn = 0 := by rw [hcn2.out, if_neg (by rintro (⟨_, e⟩ | ⟨e, _⟩); exact hd e; exact e rfl)]
                  go_wp2_with fail
                  go_roundw
                  case rel => exact ⟨j + 1, by omega, by go_num, by rw [hidu.out, hc, Nat.add_zero, hS1.out], hn⟩
                  case measure => simp [intOf]; omega
              · by_cases hd : dn = v
                · subst hd
                  have hc : cn = am := by rw [hcn2.out, if_pos (.inr ⟨by omega, rfl⟩)]
                  subst hc
                  have e4 : IntKind.u64.wrap ((S1 : Int) + (cn : Int)) = (S1 : Int) + (cn : Int) := IntWalk.u64_in _ ⟨by omega, by omega⟩
                  go_wp2_with fail
                  go_roundw
                  case rel => exact ⟨j + 1, by omega, by go_num, by rw [hidu.out, ← Nat.add_assoc, hS1.out, Int.natCast_add], hn⟩
                  case measure => simp [intOf]; omega
                · have e1 : (dn == v) = false := by simpa using hd
                  have hc : cn = 0 := by rw [hcn2.out, if_neg (by rintro (⟨e, _⟩ | ⟨_, e⟩); omega; exact hd e)]
                  go_wp2_with fail
                  go_roundw
                  case rel => exact ⟨j + 1, by omega, by go_num, by rw [hidu.out, hc, Nat.add_zero, hS1.out], hn⟩
                  case measure => simp [intOf]; omega
            · obtain rfl : j = ln := by omega
              have eT : l.take j = l := List.take_of_length_le (by omega)
              rw [eT, ← q4]
              have nd := hn.drew
              have HB : ∀ z (m : New w z), _ := fun z m => ((h.keep m).sg (o := 1) (by omega)).bal d ec (by omega) (by omega)
              have HS : ∀ z (m : New w z), _ := fun z m => ((h.keep m).sg (o := 1) (by omega)).sup d (by omega)
              rw [q2] at HS
              generalize (s 1).bal d ec = BE at *
              go_wp2_with fail
              refine wp_region_held_drew (S := (fun w' => New w w')) (by kernel_rfl) ?_ (fun hHeld => ?_)
              · exact nd
              refine wpAnyH_take (i := 0) (oi := ⟨some 91, _, _, _, _, _⟩) (v := ?_) rfl (by kernel_rfl) (by kernel_rfl) (by kernel_rfl) (fun _ _ _ h => h) (Or.inl ⟨by rfl, ?_⟩) (by assumption) ?_
              rotate_left
              · (intro wq hSw; (try dsimp only at hSw); go_simp; try with_reducible rfl)
              try simp only [Act.put, List.setIfInBounds_toArray, List.set_cons_zero, List.set_cons_succ]
              refine wpAnyH_take (i := 1) (oi := ⟨some 92, _, _, _, _, _⟩) (v := ?_) rfl (by kernel_rfl) (by kernel_rfl) (by kernel_rfl) (fun _ _ _ h => h) (Or.inl ⟨by rfl, ?_⟩) (by assumption) ?_
              rotate_left
              · (intro wq hSw; (try dsimp only at hSw); go_simp; try with_reducible rfl)
              try simp only [Act.put, List.setIfInBounds_toArray, List.set_cons_zero, List.set_cons_succ]
              refine wpAnyH_take (i := 2) (oi := ⟨some 93, _, _, _, _, _⟩) (v := ?_) rfl (by kernel_rfl) (by kernel_rfl) (by kernel_rfl) (fun _ _ _ h => h) (Or.inl ⟨by rfl, ?_⟩) (by assumption) ?_
              rotate_left
              · (intro wq hSw; (try dsimp only at hSw); go_simp; try with_reducible rfl)
              try simp only [Act.put, List.setIfInBounds_toArray, List.set_cons_zero, List.set_cons_succ]
              refine wpAnyH_take (i := 3) (oi := ⟨some 94, _, _, _, _, _⟩) (v := ?_) rfl (by kernel_rfl) (by kernel_rfl) (by kernel_rfl) (fun _ _ _ h => h) (Or.inl ⟨by rfl, ?_⟩) (by assumption) ?_
              rotate_left
              · (intro wq hSw; (try dsimp only at hSw); have d := (hG.keep hSw).cell (o := 1) (by omega); go_simp; try with_reducible rfl)
              try simp only [Act.put, List.setIfInBounds_toArray, List.set_cons_zero, List.set_cons_succ]
              refine wpAnyH_take (i := 4) (oi := ⟨some 95, _, _, _, _, _⟩) (v := ?_) rfl (by kernel_rfl) (by kernel_rfl) (by kernel_rfl) (fun _ _ _ h => h) (Or.inl ⟨by rfl, ?_⟩) (by assumption) ?_
              rotate_left
              · (intro wq hSw; (try dsimp only at hSw); go_simp; try with_reducible rfl)
              try simp only [Act.put, List.setIfInBounds_toArray, List.set_cons_zero, List.set_cons_succ]
              refine wpAnyH_take (i := 6) (oi := ⟨some 97, _, _, _, _, _⟩) (v := ?_) rfl (by kernel_rfl) (by kernel_rfl) (by kernel_rfl) (fun _ _ _ h => h) (Or.inl ⟨by rfl, ?_⟩) (by assumption) ?_
              rotate_left
              · (intro wq hSw; (try dsimp only at hSw); go_simp; try with_reducible rfl)
              try simp only [Act.put, List.setIfInBounds_toArray, List.set_cons_zero, List.set_cons_succ]
              refine wpAnyH_take (i := 8) (oi := ⟨some 99, _, _, _, _, _⟩) (v := ?_) rfl (by kernel_rfl) (by kernel_rfl) (by kernel_rfl) (fun _ _ _ h => h) (Or.inl ⟨by rfl, ?_⟩) (by assumption) ?_
              rotate_left
              · (intro wq hSw; (try dsimp only at hSw); go_simp; try with_reducible rfl)
              try simp only [Act.put, List.setIfInBounds_toArray, List.set_cons_zero, List.set_cons_succ]
              refine wpAnyH_ready (rs := [5]) (by kernel_rfl) (by simp) ?_
              refine AllReadyH.cons (o := ⟨some 96, _, _, _, _, _⟩) rfl (fun K hK => ?_) AllReadyH.nil
              go_simp
              refine (ES _).mono ?_; rintro e z5 ⟨rfl, y5⟩
              refine hK.out _ _ (hHeld.then y5 (fun _ h => h.elim)) (fun hHeld => ?_)
              clear hK K
              try simp only [Act.put, List.setIfInBounds_toArray, List.set_cons_zero, List.set_cons_succ]
              refine wpAnyH_ready (rs := [7]) (by kernel_rfl) (by simp) ?_
              refine AllReadyH.cons (o := ⟨some 98, _, _, _, _, _⟩) rfl (fun K hK => ?_) AllReadyH.nil
              go_simp
              refine (HB _ hHeld).mono ?_; rintro e z7 ⟨rfl, rfl⟩
              refine hK.out _ _ hHeld (fun hHeld => ?_)
              clear hK K
              try simp only [Act.put, List.setIfInBounds_toArray, List.set_cons_zero, List.set_cons_succ]
              refine wpAnyH_take (i := 9) (oi := ⟨some 100, _, _, _, _, _⟩) (v := ?_) rfl (by kernel_rfl) (by kernel_rfl) (by kernel_rfl) (fun _ _ _ h => h) (Or.inl ⟨by rfl, ?_⟩) (by assumption) ?_
              rotate_left
              · (intro wq hSw; (try dsimp only at hSw); go_simp; try with_reducible rfl)
              try simp only [Act.put, List.setIfInBounds_toArray, List.set_cons_zero, List.set_cons_succ]
              refine wpAnyH_take (i := 10) (oi := ⟨some 101, _, _, _, _, _⟩) (v := ?_) rfl (by kernel_rfl) (by kernel_rfl) (by kernel_rfl) (fun _ _ _ h => h) (Or.inl ⟨by rfl, ?_⟩) (by assumption) ?_
              rotate_left
              · (intro wq hSw; (try dsimp only at hSw); go_simp; try with_reducible rfl)
              try simp only [Act.put, List.setIfInBounds_toArray, List.set_cons_zero, List.set_cons_succ]
              refine wpAnyH_take (i := 11) (oi := ⟨some 102, _, _, _, _, _⟩) (v := ?_) rfl (by kernel_rfl) (by kernel_rfl) (by kernel_rfl) (fun _ _ _ h => h) (Or.inl ⟨by rfl, ?_⟩) (by assumption) ?_
              rotate_left
              · (intro wq hSw; (try dsimp only at hSw); go_simp; try with_reducible rfl)
              try simp only [Act.put, List.setIfInBounds_toArray, List.set_cons_zero, List.set_cons_succ]
              refine wpAnyH_take (i := 12) (oi := ⟨some 103, _, _, _, _, _⟩) (v := ?_) rfl (by kernel_rfl) (by kernel_rfl) (by kernel_rfl) (fun _ _ _ h => h) (Or.inl ⟨by rfl, ?_⟩) (by assumption) ?_
              rotate_left
              · (intro wq hSw; (try dsimp only at hSw); go_simp; try with_reducible rfl)
              try simp only [Act.put, List.setIfInBounds_toArray, List.set_cons_zero, List.set_cons_succ]
              refine wpAnyH_take (i := 13) (oi := ⟨some 104, _, _, _, _, _⟩) (v := ?_) rfl (by kernel_rfl) (by kernel_rfl) (by kernel_rfl) (fun _ _ _ h => h) (Or.inl ⟨by rfl, ?_⟩) (by assumption) ?_
              rotate_left
              · (intro wq hSw; (try dsimp only at hSw); go_simp; try with_reducible rfl)
              try simp only [Act.put, List.setIfInBounds_toArray, List.set_cons_zero, List.set_cons_succ]
              refine wpAnyH_take (i := 14) (oi := ⟨some 105, _, _, _, _, _⟩) (v := ?_) rfl (by kernel_rfl) (by kernel_rfl) (by kernel_rfl) (fun _ _ _ h => h) (Or.inl ⟨by rfl, ?_⟩) (by assumption) ?_
              rotate_left
              · (intro wq hSw; (try dsimp only at hSw); have d := (hG.keep hSw).cell (o := 1) (by omega); go_simp; try with_reducible rfl)
              try simp only [Act.put, List.setIfInBounds_toArray, List.set_cons_zero, List.set_cons_succ]
              refine wpAnyH_take (i := 15) (oi := ⟨some 106, _, _, _, _, _⟩) (v := ?_) rfl (by kernel_rfl) (by kernel_rfl) (by kernel_rfl) (fun _ _ _ h => h) (Or.inl ⟨by rfl, ?_⟩) (by assumption) ?_
              rotate_left
              · (intro wq hSw; (try dsimp only at hSw); go_simp; try with_reducible rfl)
              try simp only [Act.put, List.setIfInBounds_toArray, List.set_cons_zero, List.set_cons_succ]
              refine wpAnyH_take (i := 17) (oi := ⟨some 108, _, _, _, _, _⟩) (v := ?_) rfl (by kernel_rfl) (by kernel_rfl) (by kernel_rfl) (fun _ _ _ h => h) (Or.inl ⟨by rfl, ?_⟩) (by assumption) ?_
              rotate_left
              · (intro wq hSw; (try dsimp only at hSw); go_simp; try with_reducible rfl)
              try simp only [Act.put, List.setIfInBounds_toArray, List.set_cons_zero, List.set_cons_succ]
              refine wpAnyH_ready (rs := [16]) (by kernel_rfl) (by simp) ?_
              refine AllReadyH.cons (o := ⟨some 107, _, _, _, _, _⟩) rfl (fun K hK => ?_) AllReadyH.nil
              go_simp
              refine (HS _ hHeld).mono ?_; rintro e z16 ⟨rfl, rfl⟩
              refine hK.out _ _ hHeld (fun hHeld => ?_)
              clear hK K
              try simp only [Act.put, List.setIfInBounds_toArray, List.set_cons_zero, List.set_cons_succ]
              refine wpAnyH_take (i := 18) (oi := ⟨some 109, _, _, _, _, _⟩) (v := ?_) rfl (by kernel_rfl) (by kernel_rfl) (by kernel_rfl) (fun _ _ _ h => h) (Or.inl ⟨by rfl, ?_⟩) (by assumption) ?_
              rotate_left
              · (intro wq hSw; (try dsimp only at hSw); go_simp; try with_reducible rfl)
              try simp only [Act.put, List.setIfInBounds_toArray, List.set_cons_zero, List.set_cons_succ]
              refine wpAnyH_take (i := 19) (oi := ⟨some 110, _, _, _, _, _⟩) (v := ?_) rfl (by kernel_rfl) (by kernel_rfl) (by kernel_rfl) (fun _ _ _ h => h) (Or.inl ⟨by rfl, ?_⟩) (by assumption) ?_
              rotate_left
              · (intro wq hSw; (try dsimp only at hSw); go_simp; try with_reducible rfl)
              try simp only [Act.put, List.setIfInBounds_toArray, List.set_cons_zero, List.set_cons_succ]
              refine wpAnyH_done (by kernel_rfl) ?_ _
              go_wp2_with fail
              go_roundw
              case rel => exact ⟨k + 1, by omega, by go_num, hHeld⟩
              case measure => simp [intOf]; omega
        · go_wp2_with fail
          go_roundw
          case rel => exact ⟨by simp, hn⟩
          case measure => simp [intOf]
end Go.Proofs.Ytcldbipipehedaa
