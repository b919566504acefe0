/-
  WALKS: the document's bank: Mint, Burn, Send, against a bank as two functions.
-/
import Derived.Test.YtcldbipipehedaaRfC
namespace Go.Proofs.Ytcldbipipehedaa
open Go.RowKit Go.ChangeMaps
/-- block b is the document's bank, it stands for s -/
def Rk (w0 w : World) (b n : Nat) (s : BkS) : Prop := ∃ v l, Rb w0 w b v l ∧ Rel l s ∧ l.length ≤ n ∧ w0.heap.size ≤ w.heap.size
theorem Rk.keep {w0 w w' : World} {b n : Nat} {s : BkS} (h : Rk w0 w b n s) (k : New w w') : Rk w0 w' b n s := by
  obtain ⟨v, l, h1, h2, h3, h4⟩ := h
  exact ⟨v, l, h1.keep k, h2, h3, Nat.le_trans h4 k.size⟩
theorem Rk.drew {w0 w : World} {b n : Nat} {s : BkS} (h : Rk w0 w b n s) : Rk w0 w.drew b n s := by
  obtain ⟨v, l, h1, h2, h3, h4⟩ := h
  exact ⟨v, l, h1.drew, h2, h3, h4⟩
theorem Rk.mono {w0 w : World} {b n m : Nat} {s : BkS} (h : Rk w0 w b n s) (hm : n ≤ m) : Rk w0 w b m s := by
  obtain ⟨v, l, h1, h2, h3, h4⟩ := h
  exact ⟨v, l, h1, h2, by omega, h4⟩
theorem Rk.ne {w0 w : World} {b n : Nat} {s : BkS} (h : Rk w0 w b n s) {q : Nat} {c : Array Value} {T : TypeId} {g : Nat × Nat} (hq : w.heap[q]? = some (.cells c T g)) (hT : T ≠ 86) : q ≠ b := by
  obtain ⟨v, l, h1, -⟩ := h
  rintro rfl
  have := h1.blk
  rw [hq] at this
  simp at this
  exact hT this.2.1
theorem Rk.bal {w0 w : World} {b n : Nat} {s : BkS} (h : Rk w0 w b n s) (hn : n ≤ 100000) (d a : List UInt8) :
    Calls Try.prog 35 #[.pointer (some ⟨b, 0, none⟩), .string ⟨a.toArray⟩, .string ⟨d.toArray⟩] w fun e w' => e = .returned (.int .u64 (s.bal d a : Nat)) ∧ w = w' := by
  obtain ⟨v, l, h1, h2, h3, h4⟩ := h
  have := rBal_any w0 b v l d a (by omega) w h1
  rw [h2.bal] at this
  exact this
theorem Rk.sup {w0 w : World} {b n : Nat} {s : BkS} (h : Rk w0 w b n s) (hn : n ≤ 100000) (d : List UInt8) :
    Calls Try.prog 33 #[.pointer (some ⟨b, 0, none⟩), .string ⟨d.toArray⟩] w fun e w' => e = .returned (.int .u64 (s.sup d : Nat)) ∧ w = w' := by
  obtain ⟨v, l, h1, h2, h3, h4⟩ := h
  have := rSup_any w0 b v l d (by omega) (by rw [h2.sup]; exact h2.u64 d) w h1
  rw [h2.sup] at this
  exact this
theorem Rk.fit {w0 w : World} {b n : Nat} {s : BkS} (h : Rk w0 w b n s) : (∀ d, s.sup d < 18446744073709551616) ∧ ∀ d a, s.bal d a ≤ s.sup d := by
  obtain ⟨v, l, h1, h2, h3, h4⟩ := h
  exact ⟨h2.u64, h2.le⟩
theorem rSet_len (d a : List UInt8) (x : Nat) (l : List Rw) : (rSet d a x l).length ≤ l.length + 1 := by
  have := rKeep_len d a l
  unfold rSet rNew
  rw [List.length_append]
  split <;> simp <;> omega
/-- set, where the new row stands for another bank -/
theorem Rk.set {w0 w : World} {b n : Nat} {s s' : BkS} (h : Rk w0 w b n s) (hn : n ≤ 100000) (d a : List UInt8) (x : Nat) (hr : ∀ l, Rel l s → Rel (rSet d a x l) s') :
    Calls Try.prog 63 #[.pointer (some ⟨b, 0, none⟩), .string ⟨a.toArray⟩, .string ⟨d.toArray⟩, .int .u64 (x : Nat)] w fun e w' => e = .returned (.tuple #[]) ∧ Rk w0 w' b (n + 1) s' ∧ Keeps (fun k => k = b) w w' := by
  obtain ⟨v, l, h1, h2, h3, h4⟩ := h
  refine (rSetB w0 b v l d a x (by omega) w h4 h1).mono ?_
  rintro e w' ⟨he, v', h5, h6⟩
  exact ⟨he, ⟨v', _, h5, hr l h2, by have := rSet_len d a x l; omega, Nat.le_trans h4 h6.size⟩, h6⟩
theorem keeps_refl (b : Nat) (w : World) : Keeps (fun k => k = b) w w := Keeps.refl _ w
set_option maxHeartbeats 2000000 in
theorem rMintB {w0 : World} {b n : Nat} {s : BkS} (a d : List UInt8) (v : Nat) (hn : n ≤ 90000) (w : World) (h : Rk w0 w b n s) :
    Calls Try.prog 23 #[.pointer (some ⟨b, 0, none⟩), .string ⟨a.toArray⟩, .string ⟨d.toArray⟩, .int .u64 (v : Nat)] w fun e w' => e = .returned (.int .i64 (mintE s a d v)) ∧ Rk w0 w' b (n + 2) (mintS s a d v) ∧ Keeps (fun k => k = b) w w' := by
  have WR := fun w => rWrong_any a d v w
  by_cases hc : chkE v d [a] = 0
  · have hE : mintE s a d v = if overA (s.sup d) v then 101 else 0 := by unfold mintE; rw [if_pos hc]
    rw [hc] at WR
    have SU := h.sup (by omega) d
    have hu := h.fit.1 d
    obtain ⟨T, hT⟩ : ∃ T, T = 18446744073709551615 - s.sup d := ⟨_, rfl⟩
    have eW : IntKind.u64.wrap (18446744073709551615 - (s.sup d : Int)) = (T : Int) := by rw [IntWalk.u64_in _ ⟨by omega, by omega⟩, hT]; omega
    by_cases ho : overA (s.sup d) v = true
    · have HR : Hid (mintE s a d v = 101) := by rw [Hid, hE, if_pos ho]
      have HS : Hid (mintS s a d v = s) := by rw [Hid]; unfold mintS; rw [HR.out]; rfl
      have hlt : (T : Int) < (v : Int) := by unfold overA at ho; simp at ho; omega
      clear hE hc ho hT
      generalize mintE s a d v = out at *
      generalize mintS s a d v = s' at *
      generalize s.sup d = y at *
      go_enter Try.func23, Try.ntmps23
      go_wp2_with fail
      refine (WR _).mono ?_
      rintro e w' ⟨rfl, rfl⟩
      go_wp2_with fail
      refine SU.mono ?_
      rintro e w' ⟨rfl, rfl⟩
      go_wp2_with fail
      go_ret
      exact ⟨by rw [HR.out]; rfl, by rw [HS.out]; exact h.mono (by omega), keeps_refl _ _⟩
    · have HR : Hid (mintE s a d v = 0) := by rw [Hid, hE, if_neg ho]
      have hlt : ¬ (T : Int) < (v : Int) := by unfold overA at ho; simp at ho; omega
      have BA := h.bal (by omega) d a
      have SE := h.set (s' := mintS s a d v) (by omega) d a (addM (s.bal d a) v) (fun l hl => (hl.mint HR.out).1)
      have eA := addM_wrap (s.bal d a) v
      clear hE hc ho hT
      generalize mintE s a d v = out at *
      generalize mintS s a d v = s' at *
      generalize s.sup d = y at *
      generalize addM (s.bal d a) v = am at *
      generalize s.bal d a = bl at *
      go_enter Try.func23, Try.ntmps23
      go_wp2_with fail
      refine (WR _).mono ?_
      rintro e w' ⟨rfl, rfl⟩
      go_wp2_with fail
      refine SU.mono ?_
      rintro e w' ⟨rfl, rfl⟩
      go_wp2_with fail
      refine BA.mono ?_
      rintro e w' ⟨rfl, rfl⟩
      go_wp2_with fail
      refine SE.mono ?_
      rintro e w2 ⟨rfl, h2, k2⟩
      go_wp2_with fail
      go_ret
      exact ⟨by rw [HR.out]; rfl, h2.mono (by omega), k2⟩
  · have HR : Hid (mintE s a d v = chkE v d [a]) := by rw [Hid]; unfold mintE; rw [if_neg hc]
    have HS : Hid (mintS s a d v = s) := by rw [Hid]; unfold mintS; rw [HR.out, if_neg hc]
    have e1 : (chkE v d [a] != 0) = true := by simpa using hc
    clear hc
    generalize mintE s a d v = out at *
    generalize mintS s a d v = s' at *
    generalize chkE v d [a] = cc at *
    go_enter Try.func23, Try.ntmps23
    go_wp2_with fail
    refine (WR _).mono ?_
    rintro e w' ⟨rfl, rfl⟩
    go_wp2_with fail
    go_ret
    exact ⟨by rw [HR.out]; rfl, by rw [HS.out]; exact h.mono (by omega), keeps_refl _ _⟩
set_option maxHeartbeats 2000000 in
theorem rBurnB {w0 : World} {b n : Nat} {s : BkS} (a d : List UInt8) (v : Nat) (hv : U64 v) (hn : n ≤ 90000) (w : World) (h : Rk w0 w b n s) :
    Calls Try.prog 66 #[.pointer (some ⟨b, 0, none⟩), .string ⟨a.toArray⟩, .string ⟨d.toArray⟩, .int .u64 (v : Nat)] w fun e w' => e = .returned (.int .i64 (burnE s a d v)) ∧ Rk w0 w' b (n + 2) (burnS s a d v) ∧ Keeps (fun k => k = b) w w' := by
  have WR := fun w => rWrong_any a d v w
  by_cases hc : chkE v d [a] = 0
  · have hE : burnE s a d v = if s.bal d a < v then 102 else 0 := by unfold burnE; rw [if_pos hc]
    rw [hc] at WR
    have BA := h.bal (by omega) d a
    by_cases ho : s.bal d a < v
    · have HR : Hid (burnE s a d v = 102) := by rw [Hid, hE, if_pos ho]
      have HS : Hid (burnS s a d v = s) := by rw [Hid]; unfold burnS; rw [HR.out]; rfl
      have hlt : (s.bal d a : Int) < (v : Int) := by omega
      clear hE hc ho
      generalize burnE s a d v = out at *
      generalize burnS s a d v = s' at *
      generalize s.bal d a = bl at *
      go_enter Try.func66, Try.ntmps66
      go_wp2_with fail
      refine (WR _).mono ?_
      rintro e w' ⟨rfl, rfl⟩
      go_wp2_with fail
      refine BA.mono ?_
      rintro e w' ⟨rfl, rfl⟩
      go_wp2_with fail
      go_ret
      exact ⟨by rw [HR.out]; rfl, by rw [HS.out]; exact h.mono (by omega), keeps_refl _ _⟩
    · have HR : Hid (burnE s a d v = 0) := by rw [Hid, hE, if_neg ho]
      have hlt : ¬ (s.bal d a : Int) < (v : Int) := by omega
      have SE := h.set (s' := burnS s a d v) (by omega) d a (subM (s.bal d a) v) (fun l hl => (hl.burn HR.out).1)
      have eA := subM_wrap (s.bal d a) v (by have : v < _ := hv; omega)
      clear hE hc ho
      generalize burnE s a d v = out at *
      generalize burnS s a d v = s' at *
      generalize subM (s.bal d a) v = am at *
      generalize s.bal d a = bl at *
      go_enter Try.func66, Try.ntmps66
      go_wp2_with fail
      refine (WR _).mono ?_
      rintro e w' ⟨rfl, rfl⟩
      go_wp2_with fail
      refine BA.mono ?_
      rintro e w' ⟨rfl, rfl⟩
      go_wp2_with fail
      refine SE.mono ?_
      rintro e w2 ⟨rfl, h2, k2⟩
      go_wp2_with fail
      go_ret
      exact ⟨by rw [HR.out]; rfl, h2.mono (by omega), k2⟩
  · have HR : Hid (burnE s a d v = chkE v d [a]) := by rw [Hid]; unfold burnE; rw [if_neg hc]
    have HS : Hid (burnS s a d v = s) := by rw [Hid]; unfold burnS; rw [HR.out, if_neg hc]
    have e1 : (chkE v d [a] != 0) = true := by simpa using hc
    clear hc
    generalize burnE s a d v = out at *
    generalize burnS s a d v = s' at *
    generalize chkE v d [a] = cc at *
    go_enter Try.func66, Try.ntmps66
    go_wp2_with fail
    refine (WR _).mono ?_
    rintro e w' ⟨rfl, rfl⟩
    go_wp2_with fail
    go_ret
    exact ⟨by rw [HR.out]; rfl, by rw [HS.out]; exact h.mono (by omega), keeps_refl _ _⟩
theorem chk_both (v : Nat) (d a c : List UInt8) : (chkE v d [a] = 100 → chkE v d [a, c] = 100) ∧ (chkE v d [c] = 100 → chkE v d [a, c] = 100) ∧ (¬ chkE v d [a] = 100 → ¬ chkE v d [c] = 100 → chkE v d [a, c] = chkE v d [a]) := by
  unfold chkE
  simp only [List.all_cons, List.all_nil, Bool.and_true]
  cases okN d 128 <;> cases okN a 32 <;> cases okN c 32 <;> by_cases h : v = 0 <;> simp [h]
set_option maxHeartbeats 4000000 in
theorem rSendB {w0 : World} {b n : Nat} {s : BkS} (a c d : List UInt8) (v : Nat) (hv : U64 v) (hn : n ≤ 90000) (w : World) (h : Rk w0 w b n s) :
    Calls Try.prog 67 #[.pointer (some ⟨b, 0, none⟩), .string ⟨a.toArray⟩, .string ⟨c.toArray⟩, .string ⟨d.toArray⟩, .int .u64 (v : Nat)] w fun e w' => e = .returned (.int .i64 (sendE s a c d v)) ∧ Rk w0 w' b (n + 2) (sendS s a c d v) ∧ Keeps (fun k => k = b) w w' := by
  have WA := fun w => rWrong_any a d v w
  have WC := fun w => rWrong_any c d v w
  obtain ⟨q1, q2, q3⟩ := chk_both v d a c
  have bad : ¬ chkE v d [a, c] = 0 → sendE s a c d v = chkE v d [a, c] ∧ sendS s a c d v = s := by
    intro hc
    have hE : sendE s a c d v = chkE v d [a, c] := by unfold sendE; rw [if_neg hc]
    exact ⟨hE, by unfold sendS; rw [hE, if_neg hc]⟩
  by_cases ea : chkE v d [a] = 100
  · obtain ⟨r1, r2⟩ := bad (by rw [q1 ea]; decide)
    have HR : Hid (sendE s a c d v = 100) := by rw [Hid, r1, q1 ea]
    have HS := Lib.hid r2
    rw [ea] at WA
    clear q1 q2 q3 bad r1 r2 ea
    generalize sendE s a c d v = out at *
    generalize sendS s a c d v = s' at *
    generalize chkE v d [c] = cc at *
    go_enter Try.func67, Try.ntmps67
    go_wp2_with fail
    refine (WA _).mono ?_
    rintro e w' ⟨rfl, rfl⟩
    go_wp2_with fail
    refine (WC _).mono ?_
    rintro e w' ⟨rfl, rfl⟩
    go_wp2_with fail
    go_ret
    exact ⟨by rw [HR.out]; rfl, by rw [HS.out]; exact h.mono (by omega), keeps_refl _ _⟩
  · have xa : (chkE v d [a] == 100) = false := by simpa using ea
    by_cases ec : chkE v d [c] = 100
    · obtain ⟨r1, r2⟩ := bad (by rw [q2 ec]; decide)
      have HR : Hid (sendE s a c d v = 100) := by rw [Hid, r1, q2 ec]
      have HS := Lib.hid r2
      rw [ec] at WC
      clear q1 q2 q3 bad r1 r2 ec ea
      generalize sendE s a c d v = out at *
      generalize sendS s a c d v = s' at *
      generalize chkE v d [a] = cc at *
      go_enter Try.func67, Try.ntmps67
      go_wp2_with fail
      refine (WA _).mono ?_
      rintro e w' ⟨rfl, rfl⟩
      go_wp2_with fail
      refine (WC _).mono ?_
      rintro e w' ⟨rfl, rfl⟩
      go_wp2_with fail
      go_ret
      exact ⟨by rw [HR.out]; rfl, by rw [HS.out]; exact h.mono (by omega), keeps_refl _ _⟩
    · have xc : (chkE v d [c] == 100) = false := by simpa using ec
      have eq := q3 ea ec
      by_cases hc : chkE v d [a] = 0
      · rw [hc] at WA xa eq
        have hE : sendE s a c d v = if s.bal d a < v then 102 else 0 := by unfold sendE; rw [if_pos eq]
        have BA := h.bal (by omega) d a
        by_cases ho : s.bal d a < v
        · have HR : Hid (sendE s a c d v = 102) := by rw [Hid, hE, if_pos ho]
          have HS : Hid (sendS s a c d v = s) := by rw [Hid]; unfold sendS; rw [HR.out]; rfl
          have hlt : (s.bal d a : Int) < (v : Int) := by omega
          clear hE hc ho q1 q2 q3 bad ea ec eq
          generalize sendE s a c d v = out at *
          generalize sendS s a c d v = s' at *
          generalize s.bal d a = bl at *
          generalize chkE v d [c] = cc at *
          go_enter Try.func67, Try.ntmps67
          go_wp2_with fail
          refine (WA _).mono ?_
          rintro e w' ⟨rfl, rfl⟩
          go_wp2_with fail
          refine (WC _).mono ?_
          rintro e w' ⟨rfl, rfl⟩
          go_wp2_with fail
          refine BA.mono ?_
          rintro e w' ⟨rfl, rfl⟩
          go_wp2_with fail
          go_ret
          exact ⟨by rw [HR.out]; rfl, by rw [HS.out]; exact h.mono (by omega), keeps_refl _ _⟩
        · have HR : Hid (sendE s a c d v = 0) := by rw [Hid, hE, if_neg ho]
          have hlt : ¬ (s.bal d a : Int) < (v : Int) := by omega
          have hfit := h.fit
          have SE := h.set (s' := midS s a d v) (by omega) d a (subM (s.bal d a) v) (fun l hl => (hl.mid HR.out).1)
          have eA := subM_wrap (s.bal d a) v (by have : v < _ := hv; omega)
          have BC := fun z (g : Rk w0 z b (n + 1) (midS s a d v)) => g.bal (by omega) d c
          have SC := fun z (g : Rk w0 z b (n + 1) (midS s a d v)) => g.set (s' := sendS s a c d v) (by omega) d c (addM ((midS s a d v).bal d c) v) (fun l hl => hl.send hfit.2 hfit.1 (by omega) HR.out)
          have eC := addM_wrap ((midS s a d v).bal d c) v
          clear hE hc ho q1 q2 q3 bad ea ec eq hfit
          generalize sendE s a c d v = out at *
          generalize sendS s a c d v = s' at *
          generalize addM ((midS s a d v).bal d c) v = am at *
          generalize (midS s a d v).bal d c = bc at *
          generalize midS s a d v = ms at *
          generalize subM (s.bal d a) v = sm at *
          generalize s.bal d a = bl at *
          generalize chkE v d [c] = cc at *
          go_enter Try.func67, Try.ntmps67
          go_wp2_with fail
          refine (WA _).mono ?_
          rintro e w' ⟨rfl, rfl⟩
          go_wp2_with fail
          refine (WC _).mono ?_
          rintro e w' ⟨rfl, rfl⟩
          go_wp2_with fail
          refine BA.mono ?_
          rintro e w' ⟨rfl, rfl⟩
          go_wp2_with fail
          refine BA.mono ?_
          rintro e w' ⟨rfl, rfl⟩
          go_wp2_with fail
          refine SE.mono ?_
          rintro e w2 ⟨rfl, h2, k2⟩
          go_wp2_with fail
          refine (BC _ h2).mono ?_
          rintro e w' ⟨rfl, rfl⟩
          go_wp2_with fail
          refine (SC _ h2).mono ?_
          rintro e w3 ⟨rfl, h3, k3⟩
          go_wp2_with fail
          go_ret
          exact ⟨by rw [HR.out]; rfl, h3, k2.then k3 (fun _ h => .inl h)⟩
      · obtain ⟨r1, r2⟩ := bad (by rw [eq]; exact hc)
        have HR : Hid (sendE s a c d v = chkE v d [a]) := by rw [Hid, r1, eq]
        have HS := Lib.hid r2
        have e1 : (chkE v d [a] != 0) = true := by simpa using hc
        clear q1 q2 q3 bad r1 r2 ec ea eq hc
        generalize sendE s a c d v = out at *
        generalize sendS s a c d v = s' at *
        generalize chkE v d [a] = ca at *
        generalize chkE v d [c] = cc at *
        go_enter Try.func67, Try.ntmps67
        go_wp2_with fail
        refine (WA _).mono ?_
        rintro e w' ⟨rfl, rfl⟩
        go_wp2_with fail
        refine (WC _).mono ?_
        rintro e w' ⟨rfl, rfl⟩
        go_wp2_with fail
        go_ret
        exact ⟨by rw [HR.out]; rfl, by rw [HS.out]; exact h.mono (by omega), keeps_refl _ _⟩
end Go.Proofs.Ytcldbipipehedaa
