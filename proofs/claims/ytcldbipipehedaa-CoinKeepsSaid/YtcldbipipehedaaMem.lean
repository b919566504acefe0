/-
  LAWS ON MEMORY: what a call may have turned (Keeps), and append onto a slice of one's own from whatever source, with the block that it then lies in. No program in sight.
-/
import Derived.WalkKit
import Derived.Deep.AppendSrc
import Derived.Lib.Hide
import Derived.Deep.Quiet
namespace Go.Proofs.Ytcldbipipehedaa
open Go.RowKit

/-- From w to w' nothing has turned but blocks of S, and new ones. -/
structure Keeps (S : Nat → Prop) (w w' : World) : Prop where
  os : w'.os = w.os
  tape : w'.tape = w.tape
  output : w'.output = w.output
  size : w.heap.size ≤ w'.heap.size
  block : ∀ k, k < w.heap.size → ¬ S k → w'.heap[k]? = w.heap[k]?

theorem Keeps.refl (S : Nat → Prop) (w : World) : Keeps S w w := ⟨rfl, rfl, rfl, Nat.le_refl _, fun _ _ _ => rfl⟩
theorem Keeps.trans {S S' T : Nat → Prop} {a b c : World} (h : Keeps S a b) (k : Keeps S' b c) (hS : ∀ j, j < a.heap.size → S j → T j) (hS' : ∀ j, j < a.heap.size → S' j → T j) : Keeps T a c :=
  ⟨k.os.trans h.os, k.tape.trans h.tape, k.output.trans h.output, Nat.le_trans h.size k.size, fun j hj hn =>
    (k.block j (Nat.lt_of_lt_of_le hj h.size) (fun e => hn (hS' j hj e))).trans (h.block j hj (fun e => hn (hS j hj e)))⟩
theorem Keeps.mono {S T : Nat → Prop} {a b : World} (h : Keeps S a b) (hS : ∀ j, j < a.heap.size → S j → T j) : Keeps T a b :=
  ⟨h.os, h.tape, h.output, h.size, fun j hj hn => h.block j hj (fun e => hn (hS j hj e))⟩
theorem Keeps.drew {S : Nat → Prop} {a b : World} (h : Keeps S a b) : Keeps S a b.drew := ⟨h.os, h.tape, h.output, h.size, h.block⟩
theorem Keeps.drewN {S : Nat → Prop} {a b : World} (h : Keeps S a b) (n : Nat) : Keeps S a (b.drewN n) := ⟨h.os, h.tape, h.output, h.size, h.block⟩
theorem Keeps.alloc {S : Nat → Prop} {a b : World} (h : Keeps S a b) (o : Obj) : Keeps S a (b.alloc o) :=
  ⟨h.os, h.tape, h.output, Nat.le_trans h.size (by simp), fun j hj hn => (heap_alloc_old b o (Nat.lt_of_lt_of_le hj h.size)).trans (h.block j hj hn)⟩
theorem Keeps.setCell {S : Nat → Prop} {a b : World} (h : Keeps S a b) {p : Addr} (hp : S p.block ∨ a.heap.size ≤ p.block) (u : Value) : Keeps S a (b.setCell p u) :=
  ⟨h.os, h.tape, h.output, Nat.le_trans h.size (by simp), fun j hj hn => (Below.heap_setCell b p u j (by rintro rfl; rcases hp with hp | hp; exact hn hp; omega)).trans (h.block j hj hn)⟩
theorem Keeps.grown {S : Nat → Prop} {a b c : World} {row : Option Nat} (h : Keeps S a b) (hg : b.grownBy c row) (hr : ∀ k, row = some k → S k ∨ a.heap.size ≤ k) : Keeps S a c :=
  ⟨hg.os.trans h.os, hg.tape.trans h.tape, hg.output.trans h.output, Nat.le_trans h.size hg.size, fun j hj hn =>
    (hg.block j (Nat.lt_of_lt_of_le hj h.size) (fun e => by rcases hr j e.symm with h1 | h1; exact hn h1; omega)).trans (h.block j hj hn)⟩
theorem Keeps.then {S : Nat → Prop} {a b c : World} {S' : Nat → Prop} (h : Keeps S a b) (hg : Keeps S' b c) (hr : ∀ k, S' k → S k ∨ a.heap.size ≤ k) : Keeps S a c :=
  ⟨hg.os.trans h.os, hg.tape.trans h.tape, hg.output.trans h.output, Nat.le_trans h.size hg.size, fun j hj hn =>
    (hg.block j (Nat.lt_of_lt_of_le hj h.size) (fun e => by rcases hr j e with h1 | h1; exact hn h1; omega)).trans (h.block j hj hn)⟩
theorem Keeps.below {S : Nat → Prop} {a b : World} (h : Keeps S a b) {B : Nat} (hB : B ≤ a.heap.size) (hS : ∀ k, k < B → ¬ S k) : Below B a b :=
  ⟨h.os, h.tape, h.output, h.size, fun k hk => h.block k (by omega) (hS k hk)⟩
theorem Keeps.of_below {B : Nat} {a b : World} (h : Below B a b) : Keeps (fun k => B ≤ k) a b :=
  ⟨h.os, h.tape, h.output, h.size, fun k _ hn => h.block k (by omega)⟩
/-- nothing old has turned -/
abbrev New (w w' : World) : Prop := Keeps (fun _ => False) w w'
theorem New.below {a b : World} (h : New a b) : Below a.heap.size a b := Keeps.below h (Nat.le_refl _) (fun _ _ h => h)
theorem New.of_below {a b : World} (h : Below a.heap.size a b) : New a b :=
  ⟨h.os, h.tape, h.output, h.size, fun k hk _ => h.block k hk⟩
theorem Keeps.kept {S : Nat → Prop} {a b : World} (h : Keeps S a b) {k : Nat} {o : Obj} (ho : a.heap[k]? = some o) (hS : ¬ S k) : b.heap[k]? = some o :=
  (h.block k (Array.getElem?_eq_some_iff.1 ho).1 hS).trans ho
theorem Keeps.cell {S : Nat → Prop} {a b : World} (h : Keeps S a b) {p : Addr} (hp : p.block < a.heap.size) (hS : ¬ S p.block) : b.cell? p = a.cell? p := World.cell?_of_block (h.block p.block hp hS)
theorem Keeps.frozen {S : Nat → Prop} {a b : World} (h : Keeps S a b) {p : Addr} (hp : p.block < a.heap.size) (hS : ¬ S p.block) : b.frozen? p = a.frozen? p := World.frozen?_of_block (h.block p.block hp hS)
theorem Keeps.owns {S : Nat → Prop} {a b : World} (h : Keeps S a b) {base : Nat} {e : TypeId} {size : Nat} {v : Value} {n : Nat} {xs : List Value} (ho : a.ownsRow base e size v n xs) (hS : ∀ k, v.ownBlock = some k → ¬ S k) : b.ownsRow base e size v n xs := by
  refine ⟨ho.1, ?_⟩
  rcases ho.2 with hn | ⟨g, cap, cur, rfl, hb, hgg, rest⟩
  · exact .inl hn
  · exact .inr ⟨g, cap, cur, rfl, hb, h.kept hgg (hS g rfl), rest⟩

theorem ownsRow_shape {a : World} {base : Nat} {e : TypeId} {size : Nat} {v : Value} {n : Nat} {xs : List Value} (ho : a.ownsRow base e size v n xs) : ∃ ao k cp, v = .slice ao k cp := by
  rcases ho.2 with ⟨rfl, rfl⟩ | ⟨g, cap, cur, rfl, _⟩
  · exact ⟨_, _, _, rfl⟩
  · exact ⟨_, _, _, rfl⟩

theorem Keeps.undrew {S : Nat → Prop} {a b : World} (h : Keeps S a.drew b) : Keeps S a b := ⟨h.os, h.tape, h.output, h.size, h.block⟩
theorem New.set1 {a b : World} (h : New a b) (c i : Nat) (u : Value) : Keeps (fun k => k = c) a (b.setCell ⟨c, i, none⟩ u) :=
  Keeps.setCell (S := fun k => k = c) (p := ⟨c, i, none⟩) (h.mono (fun _ _ h => h.elim)) (.inl rfl) u
theorem Keeps.set1 {a b : World} {c : Nat} (h : Keeps (fun k => k = c) a b) (i : Nat) (u : Value) : Keeps (fun k => k = c) a (b.setCell ⟨c, i, none⟩ u) :=
  Keeps.setCell (S := fun k => k = c) (p := ⟨c, i, none⟩) h (.inl rfl) u
theorem str_append (a b : List UInt8) : (⟨a.toArray⟩ : ByteArray) ++ ⟨b.toArray⟩ = ⟨(a ++ b).toArray⟩ := by
  rw [ByteArray.mk_append_mk]

/-- bytes as cells -/
def bytesV (l : List UInt8) : List Value := l.map fun b => Value.int .u8 b.toNat
theorem bytesV_length (l : List UInt8) : (bytesV l).length = l.length := by simp [bytesV]
theorem bytesV_append (l r : List UInt8) : bytesV (l ++ r) = bytesV l ++ bytesV r := by simp [bytesV]
theorem madeCells_one (z : Value) (n : Nat) : madeCells #[z] n = (List.replicate n z).toArray := by
  apply Array.ext
  · simp [madeCells]
  · intro i h1 h2
    simp [madeCells, Nat.mod_one]
theorem byteCells_eq (s : ByteArray) : byteCells s = bytesV s.data.toList := rfl

theorem ret_str {a b : ByteArray} (h : a = b) : Ending.returned (.string a) = .returned (.string b) := by rw [h]
theorem ret_int {k : IntKind} {a b : Int} (h : a = b) : Ending.returned (.int k a) = .returned (.int k b) := by rw [h]
theorem ret_bool {a b : Bool} (h : a = b) : Ending.returned (.bool a) = .returned (.bool b) := by rw [h]
theorem ext_take (l : List UInt8) (n : Nat) : (⟨l.toArray⟩ : ByteArray).extract 0 n = ⟨(l.take n).toArray⟩ := by
  apply ByteArray.ext
  rw [ByteArray.data_extract]
  simp
theorem ext_drop (l : List UInt8) (n m : Nat) (h : l.length ≤ m) : (⟨l.toArray⟩ : ByteArray).extract n m = ⟨(l.drop n).toArray⟩ := by
  apply ByteArray.ext
  rw [ByteArray.data_extract]
  simp
  exact List.take_of_length_le (by simp; omega)
/-- '[]byte(s)': a new block, whose first cells are the bytes -/
theorem bytes_of_string {P : Program} (w : World) (src dst e : TypeId) (l : List UInt8) (hs : P.underlying src = some .string) (hd : P.underlying dst = some (.slice e)) (he : P.underlying e = some (.int .u8)) :
    ∃ cap C F, (convert src dst (.string ⟨l.toArray⟩)).run P w = .ok (.slice (some ⟨w.heap.size, 0, none⟩) l.length cap) (w.drew.alloc (.cells C e F)) ∧ l.length ≤ cap ∧ ∀ j (h : j < l.length), C[j]? = some (.int .u8 (l[j].toNat : Int)) := by
  have hsz : (⟨l.toArray⟩ : ByteArray).size = l.length := by simp [ByteArray.size]
  refine ⟨grownCap w l.length 0 e, bytesRow ⟨l.toArray⟩ (grownCap w l.length 0 e), ((bytesRow ⟨l.toArray⟩ (grownCap w l.length 0 e)).size, (bytesRow ⟨l.toArray⟩ (grownCap w l.length 0 e)).size + 1), ?_, ?_, ?_⟩
  · have h := run_bytes_of_string (P := P) w src dst e ⟨l.toArray⟩ hs hd he
    rw [hsz] at h
    exact h
  · exact grownCap_ge w l.length 0 e
  · intro j h
    have := bytesRow_at ⟨l.toArray⟩ (grownCap w l.length 0 e) j (by simpa using h)
    simpa using this
theorem str_mk (s : ByteArray) : s = ⟨s.data.toList.toArray⟩ := by cases s; simp
theorem str_inj {a b : List UInt8} (h : (⟨a.toArray⟩ : ByteArray) = ⟨b.toArray⟩) : a = b := by
  have := congrArg (fun s : ByteArray => s.data.toList) h
  simpa using this

/-- string(b), b a slice of one's own -/
theorem conv_own {P : Program} {w : World} {base : Nat} {v : Value} {l : List UInt8} (src dst e : TypeId) (hs : P.underlying src = some (.slice e)) (he : P.underlying e = some (.int .u8)) (hd : P.underlying dst = some .string)
    (hown : w.ownsRow base e 1 v l.length (bytesV l)) : (convert src dst v).run P w = .ok (.string ⟨l.toArray⟩) w := by
  rcases hown.2 with ⟨rfl, hn⟩ | ⟨g, cap, cur, rfl, hb, hg, hnc, hcm, hcs, htake⟩
  · have : l = [] := List.eq_nil_of_length_eq_zero hn
    subst this
    exact run_convert_bytes_nil (P := P) w src e hs he 0 0 dst hd
  · have hc : ∀ i, i < l.length → w.cell? ⟨g, 0 + i, none⟩ = some (.int .u8 ((l.map fun b => (b.toNat : Int)).getD i 0)) := by
      intro i hi
      have h := hown.cells (g := g) rfl i (.int .u8 ((l[i]'hi).toNat : Int)) (by simp [bytesV, hi])
      rw [Addr.add_lit] at h
      rw [h]
      simp [List.getD, hi]
    have h := run_convert_bytes_arg (P := P) w src e hs he g 0 l.length cap (l.map fun b => (b.toNat : Int)) (by simp) hc dst hd
    rw [h]
    congr 2
    simp only [strOfNums]
    congr 1
    apply Array.ext'
    simp [List.map_map, Function.comp_def]

/-- APPEND onto a slice of one's own, from whatever source: the law of the kit with the block told that the slice lies in behind it. -/
theorem run_app {P : Program} (w : World) (base : Nat) (t tx ty e : TypeId) (i : TypeInfo) (z : Value) (size bytes : Nat) (ht : P.underlying t = some (.slice e)) (hi : P.info? e = some i) (hz : i.zero = some z)
    (hsize : i.size = size) (hby : i.bytes = bytes) (hzs : z.cells.size = size)
    (v : Value) (n : Nat) (xs : List Value) (hown : w.ownsRow base e size v n xs)
    (x : Value) (m : Nat) (news : List Value) (hs : Src P size tx x m news w)
    (h63 : n + m ≤ maxLen) (hbytes : (n + m) * bytes ≤ 140737488355328) (hbase : base ≤ w.heap.size) :
    ∃ v' w', (Builtin.append_ #[t, tx] ty #[v, x]).run P w = .ok v' w' ∧ w'.ownsRow base e size v' (n + m) (xs ++ news) ∧ w.grownBy w' v.ownBlock ∧
      (v'.ownBlock = v.ownBlock ∨ v'.ownBlock = some w.heap.size ∧ w.heap.size < w'.heap.size) := by
  subst hsize
  subst hby
  have hlen : (xs ++ news).length = (n + m) * i.size := by rw [List.length_append, hown.1, hs.newsLen, Nat.add_mul]
  have h63' : ((n + m : Nat) : Int) ≤ 9223372036854775807 := by simp only [maxLen] at h63; omega
  have grow : ∀ (ao : Option Addr) (cap : Nat), v = .slice ao n cap → cap < n + m → (Builtin.firstCells i.size n (.slice ao n cap)).run P w.drew = .ok xs.toArray w.drew →
      ∃ v' w', (Builtin.append_ #[t, tx] ty #[v, x]).run P w = .ok v' w' ∧ w'.ownsRow base e i.size v' (n + m) (xs ++ news) ∧ w.grownBy w' v.ownBlock ∧
        (v'.ownBlock = v.ownBlock ∨ v'.ownBlock = some w.heap.size ∧ w.heap.size < w'.heap.size) := by
    intro ao cap hv hc hold
    subst hv
    have hr := run_append_grow_src (P := P) w t tx ty e i z ht hi hz ao n cap xs hold x m news hs hc h63' (growslice_fits hc hbytes)
    refine ⟨_, _, hr, ⟨hlen, .inr ⟨w.heap.size, _, _, rfl, hbase, heap_alloc_new w.drew _, grownCap_ge w (n + m) cap e, grownCap_le_maxLen w (n + m) cap e h63, ?_, ?_⟩⟩, ⟨rfl, rfl, rfl, by simp, fun k hk _ => heap_alloc_old w.drew _ hk⟩, .inr ⟨rfl, by simp⟩⟩
    · have hge := grownCap_ge w (n + m) cap e
      simp only [Array.size_append, List.size_toArray, size_zeroCells, hzs, hlen, ← Nat.add_mul]
      congr 1
      omega
    · simp only [Array.toList_append, ← hlen]
      exact List.take_left
  rcases hown.2 with ⟨rfl, rfl⟩ | ⟨g, cap, cur, rfl, hbg, hg, hnc, hcm, hcs, htake⟩
  · have hx : xs = [] := List.eq_nil_of_length_eq_zero (by simpa using hown.1)
    subst hx
    by_cases hm : m = 0
    · subst hm
      have hn : news = [] := List.eq_nil_of_length_eq_zero (by simpa using hs.newsLen)
      subst hn
      refine ⟨.slice none 0 0, w, ?_, World.ownsRow_nil w base e i.size, ⟨rfl, rfl, rfl, Nat.le_refl _, fun _ _ _ => rfl⟩, .inl rfl⟩
      rcases hs.kind with ⟨e', hk⟩ | hk <;> simp [Builtin.append_, run_underlying ht, run_underlying hk, sizeOf, typeInfo, hi, hs.len, hs.cells]
    · exact grow none 0 rfl (by omega) (run_firstCells_none w.drew i.size 0 0 0)
  · by_cases hroom : n + m ≤ cap
    · have hfit : n * i.size + news.length ≤ cur.size := by rw [hs.newsLen, hcs, ← Nat.add_mul]; exact Nat.mul_le_mul_right _ hroom
      have hst := run_storeCells_at P g (n * i.size) e news 0 cur w hg (by simpa using hfit) hs.one
      simp only [Nat.add_zero] at hst
      have hr : (Builtin.append_ #[t, tx] ty #[.slice (some ⟨g, 0, none⟩) n cap, x]).run P w =
          .ok (.slice (some ⟨g, 0, none⟩) (n + m) cap) (w.setRow g (cur.toList.take (n * i.size) ++ news ++ cur.toList.drop (n * i.size + news.length)).toArray) := by
        rcases hs.kind with ⟨e', hk⟩ | hk <;> simp [Builtin.append_, run_underlying ht, run_underlying hk, sizeOf, typeInfo, hi, hs.len, hroom, hs.cells, Addr.add_lit, hst]
      refine ⟨_, _, hr, ⟨hlen, .inr ⟨g, cap, _, rfl, hbg, setRow_heap w g cur _ e _ hg, hroom, hcm, ?_, ?_⟩⟩, ⟨rfl, rfl, rfl, by simp, fun k _ hk => setRow_other w g k _ (fun e => hk (by simp [Value.ownBlock, e]))⟩, .inl rfl⟩
      · simp only [List.size_toArray, List.length_append, List.length_take, List.length_drop, Array.length_toList]
        omega
      · rw [htake, ← hlen]
        exact List.take_left
    · have holds : ∀ j u, xs[j]? = some u → w.drew.cell? ((⟨g, 0, none⟩ : Addr).add j) = some u := hown.cells (g := g) rfl
      exact grow (some ⟨g, 0, none⟩) cap rfl (by omega) (run_firstCells_some w.drew i.size n ⟨g, 0, none⟩ n cap xs hown.1 holds)

theorem grownBy_refl (w : World) (row : Option Nat) : w.grownBy w row := ⟨rfl, rfl, rfl, Nat.le_refl _, fun _ _ _ => rfl⟩
/-- one cell laid in a new block of its own: a source of one element -/
theorem Src.one {P : Program} (w : World) {tx e' : TypeId} (hk : P.underlying tx = some (.slice e')) (u : Value) (h1 : u.oneCell' = true) (T : TypeId) :
    Src P 1 tx (.slice (some ⟨w.heap.size, 0, none⟩) 1 1) 1 [u] (w.alloc (.cells #[u] T)) := by
  refine Src.ofSlice _ hk ⟨w.heap.size, 0, none⟩ 1 1 [u] rfl (fun j x hj => ?_) (fun x hx => ?_)
  · match j, hj with
    | 0, hj =>
      simp at hj; subst hj
      simp [Addr.add]
  · simp at hx; subst hx; exact h1

/-- .. for the walk. -/
theorem wpList_app {P : Program} (w : World) {ops : Array Oper} {rest : List Oper} {o : Oper} {a : Act} {Q : Exit → Act → World → Prop} (hgd : o.guard = none) (s x : Operand) (t tx : TypeId)
    (ho : o.op = .call { callee := .builtin .append, args := #[s, x], argTypes := #[t, tx] })
    (base : Nat) (e : TypeId) (i : TypeInfo) (z : Value) (size bytes : Nat) (ht : P.underlying t = some (.slice e)) (hi : P.info? e = some i) (hz : i.zero = some z)
    (hsize : i.size = size) (hby : i.bytes = bytes) (hzs : z.cells.size = size)
    (v : Value) (n : Nat) (xs : List Value) (hv : a.eval s = v) (hown : w.ownsRow base e size v n xs)
    (xv : Value) (m : Nat) (news : List Value) (hx : a.eval x = xv) (hs : Src P size tx xv m news w)
    (h63 : n + m ≤ maxLen) (hbytes : (n + m) * bytes ≤ 140737488355328) (hbase : base ≤ w.heap.size)
    (h : ∀ v' w', w'.ownsRow base e size v' (n + m) (xs ++ news) → w.grownBy w' v.ownBlock → (v'.ownBlock = v.ownBlock ∨ v'.ownBlock = some w.heap.size ∧ w.heap.size < w'.heap.size) → wpList P ops Q rest (a.put o.dst v') w') : wpList P ops Q (o :: rest) a w := by
  refine wpList_plain hgd fun K hK => ?_
  obtain ⟨v', w', hr, h2, h3, h4⟩ := run_app (P := P) w base t tx o.type e i z size bytes ht hi hz hsize hby hzs v n xs hown xv m news hs h63 hbytes hbase
  unfold Oper.wp execOp
  simp only [ho, resolve, invoke, builtin, Sem.run_bind, Sem.run_pure, Result.andThen_ok, List.map_toArray, List.map_cons, List.map_nil, hv, hx, hr]
  exact hK _ _ (h v' w' h2 h3 h4)

end Go.Proofs.Ytcldbipipehedaa
