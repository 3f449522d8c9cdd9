/- Layer 53: what a reopening has done so far (plain); Contains; a delete in a region; a row that is cut. -/
import Derived.Test.YtdcjocldggmdbaaY53f
set_option linter.unusedSimpArgs false
set_option maxRecDepth 50000
namespace Go.Proofs.Ytdcjocldggmdbaa
open Go.RowKit Go

structure RInv (ts : List Tk) (ne : Nat) (sg : List Sg) (k : Ky) (out wk : List Ky) : Prop where
  nd : out.Nodup
  r1 : ∀ x ∈ out, Rch ts ne sg k x
  r2 : ∀ x ∈ wk, Rch ts ne sg k x
  cl : ∀ x ∈ out, ∀ y ∈ keysS sg, x ∈ rawNeeds ts ne y → y ∈ out ∨ y ∈ wk
  k0 : k ∈ out ∨ k ∈ wk
theorem RInv.start {ts : List Tk} {ne : Nat} {sg : List Sg} {k : Ky} (h : k ∈ keysS sg) : RInv ts ne sg k [] [k] where
  nd := List.nodup_nil
  r1 := fun x h => by cases h
  r2 := fun x hx => by rw [List.mem_singleton] at hx; rw [hx]; exact .base h
  cl := fun x h => by cases h
  k0 := .inr (by simp)
theorem RInv.skip {ts : List Tk} {ne : Nat} {sg : List Sg} {k : Ky} {out l : List Ky} {x : Ky} (h : RInv ts ne sg k out (l ++ [x])) (hx : x ∈ out) : RInv ts ne sg k out l where
  nd := h.nd
  r1 := h.r1
  r2 := fun y hy => h.r2 y (List.mem_append_left _ hy)
  cl := fun z hz y hy hr => by
    rcases h.cl z hz y hy hr with h1 | h1
    · exact .inl h1
    · rcases List.mem_append.1 h1 with h1 | h1
      · exact .inr h1
      · rw [List.mem_singleton] at h1
        rw [h1]; exact .inl hx
  k0 := by
    rcases h.k0 with h1 | h1
    · exact .inl h1
    · rcases List.mem_append.1 h1 with h1 | h1
      · exact .inr h1
      · rw [List.mem_singleton] at h1
        rw [h1]; exact .inl hx
theorem RInv.take {ts : List Tk} {ne : Nat} {sg : List Sg} {k : Ky} {out l pu : List Ky} {x : Ky} (h : RInv ts ne sg k out (l ++ [x])) (hx : x ∉ out) (hp : ∀ y ∈ pu, y ∈ keysS sg ∧ x ∈ rawNeeds ts ne y)
    (hq : ∀ y ∈ keysS sg, y ∉ out ++ [x] → x ∈ rawNeeds ts ne y → y ∈ pu) : RInv ts ne sg k (out ++ [x]) (l ++ pu) where
  nd := by
    rw [List.nodup_append]
    exact ⟨h.nd, by simp, fun a ha b hb e => by rw [List.mem_singleton] at hb; subst hb; subst e; exact hx ha⟩
  r1 := fun y hy => by
    rcases List.mem_append.1 hy with hy | hy
    · exact h.r1 y hy
    · rw [List.mem_singleton] at hy; rw [hy]; exact h.r2 x (by simp)
  r2 := fun y hy => by
    rcases List.mem_append.1 hy with hy | hy
    · exact h.r2 y (List.mem_append_left _ hy)
    · exact .step (h.r2 x (by simp)) (hp y hy).1 (hp y hy).2
  cl := fun z hz y hy hr => by
    by_cases hyo : y ∈ out ++ [x]
    · exact .inl hyo
    · rcases List.mem_append.1 hz with hz | hz
      · rcases h.cl z hz y hy hr with h1 | h1
        · exact .inl (List.mem_append_left _ h1)
        · rcases List.mem_append.1 h1 with h1 | h1
          · exact .inr (List.mem_append_left _ h1)
          · exact absurd (List.mem_append_right _ h1) hyo
      · rw [List.mem_singleton] at hz
        subst hz
        exact .inr (List.mem_append_right _ (hq y hy hyo hr))
  k0 := by
    rcases h.k0 with h1 | h1
    · exact .inl (List.mem_append_left _ h1)
    · rcases List.mem_append.1 h1 with h1 | h1
      · exact .inr (List.mem_append_left _ h1)
      · exact .inl (List.mem_append_right _ h1)
theorem RInv.done {ts : List Tk} {ne : Nat} {sg : List Sg} {k : Ky} {out : List Ky} (h : RInv ts ne sg k out []) (x : Ky) : x ∈ out ↔ Rch ts ne sg k x := by
  constructor
  · exact h.r1 x
  · intro hr
    induction hr with
    | base _ => exact h.k0.elim id (fun h => by cases h)
    | step _ h2 h3 ih => exact (h.cl _ ih _ h2 h3).elim id (fun h => by cases h)
theorem RInv.len {ts : List Tk} {ne : Nat} {sg : List Sg} {k : Ky} {out wk : List Ky} (h : RInv ts ne sg k out wk) : out.length ≤ sg.length := by
  have h1 : out ⊆ keysS sg := fun x hx => (h.r1 x hx).mem
  have := h.nd.length_le_of_subset h1
  unfold keysS at this
  rwa [List.length_map] at this

/-! ### Contains -/
def IndexP (l : List Ky) (k : Ky) (w : World) (e : Ending) (w' : World) : Prop := ∃ r : Int, e = .returned (.int .i64 r) ∧ (0 ≤ r ↔ k ∈ l) ∧ Below w.heap.size w w'
set_option maxRecDepth 20000 in
set_option maxHeartbeats 1000000 in
theorem indexK {S : Nat → Prop} (w : World) (a : Option Addr) (len cap : Nat) (l : List Ky) (hx : Rd (.sl keyT) S w [.slice a len cap] (l.map Ky.d)) (hS : ∀ b, S b → b < w.heap.size) (k : Ky) :
    Calls Try.prog 55 #[.slice a len cap, k.v] w (IndexP l k w) := by
  obtain ⟨hl, hlc, hm, -⟩ := hx.sl_flat
  rw [List.length_map] at hl
  obtain ⟨k1, k2, k3⟩ := k
  have hB1 := (Below.refl w.heap.size w).alloc (Nat.le_refl _) (.cells #[.string k1, .int .i64 k2, .int .i64 k3] 53)
  have HR1 := Lib.hid (heap_alloc_new w (.cells #[.string k1, .int .i64 k2, .int .i64 k3] 53))
  have HB1 := Lib.hid hB1
  have HX := Lib.hid hx
  have HL := Lib.hid hl
  have HS := Lib.hid hS
  have hgd : Try.prog.eqGuardType Try.prog.depth 53 = false := by kernel_rfl
  unfold Ky.v
  simp only
  clear hx hl hS hB1
  go_enter Try.func55, Try.ntmps55
  go_wp2_with fail
  generalize w.alloc (.cells #[.string k1, .int .i64 k2, .int .i64 k3] 53) = w1 at *
  go_loopw [5, 8] (fun _ i wr => ∃ (q : Nat), q ≤ len ∧ i = .int .i64 q ∧ (∀ j (hj : j < l.length), j < q → l[j] ≠ ⟨k1, k2, k3⟩) ∧ Below w1.heap.size w1 wr) (fun _ i _ => len - (intOf i).toNat)
  case atStart => exact ⟨0, Nat.zero_le _, rfl, fun j _ hj => absurd hj (by omega), Below.refl _ _⟩
  obtain ⟨q, hk, rfl, hno, hB⟩ := hrel
  have HB := Lib.hid hB
  have HNO := Lib.hid hno
  clear hno
  by_cases hlt : q < len
  · have hkI : (q : Int) < (len : Int) := by omega
    have hql : q < l.length := by rw [HL.out]; exact hlt
    obtain ⟨b, o, rfl, -, m0, m1, m2, -⟩ := key_at (HX.out.below (below_step HB1.out hB) HS.out) q hql
    have hcb := (hB.block _ (blk_lt HR1.out)).trans HR1.out
    obtain ⟨eb, heb⟩ : ∃ eb, decide ((⟨k1, k2, k3⟩ : Ky) = l[q]) = eb := ⟨_, rfl⟩
    have HIN := Lib.hid (show eb = true → (⟨k1, k2, k3⟩ : Ky) ∈ l from fun h => by rw [of_decide_eq_true (heb.trans h)]; exact List.getElem_mem hql)
    have HNN := Lib.hid (show eb = false → ∀ j (hj : j < l.length), j < q + 1 → l[j] ≠ ⟨k1, k2, k3⟩ from fun h j hj hjq => by
      by_cases e : j = q
      · subst e; exact fun e' => of_decide_eq_false (heb.trans h) e'.symm
      · exact HNO.out j hj (by omega))
    generalize l[q] = y at m0 m1 m2 heb
    obtain ⟨y1, y2, y3⟩ := y
    simp only at m0 m1 m2
    have heq : ∀ W, Sem.run Try.prog (binOp .eql 53 (.agg #[.string k1, .int .i64 k2, .int .i64 k3]) (.agg #[.string y1, .int .i64 y2, .int .i64 y3])) W = .ok (.bool eb) W := fun W => by
      have := key_eql W ⟨k1, k2, k3⟩ ⟨y1, y2, y3⟩
      rw [heb] at this
      exact this
    have HLT := Lib.hid hlt
    have hC0 : Cells [(⟨w.heap.size, 0, none⟩, .string k1), (⟨w.heap.size, 1, none⟩, .int .i64 k2), (⟨w.heap.size, 2, none⟩, .int .i64 k3), (⟨b, o + q * 3, none⟩, .string y1), (⟨b, o + q * 3 + 1, none⟩, .int .i64 y2), (⟨b, o + q * 3 + 2, none⟩, .int .i64 y3)] wr := ⟨blk_cell hcb 0, blk_cell hcb 1, blk_cell hcb 2, m0, m1, m2, trivial⟩
    clear m0 m1 m2 hcb hB hlt heb hql
    go_wp2_with fail
    refine wp_region_T (Cells [(⟨w.heap.size, 0, none⟩, .string k1), (⟨w.heap.size, 1, none⟩, .int .i64 k2), (⟨w.heap.size, 2, none⟩, .int .i64 k3), (⟨b, o + q * 3, none⟩, .string y1), (⟨b, o + q * 3 + 1, none⟩, .int .i64 y2), (⟨b, o + q * 3 + 2, none⟩, .int .i64 y3)]) (fun _ => false) (by kernel_rfl) ?_
    have hSss1 := Cells.drew hC0
    have hB_0_s1 : Below wr.heap.size wr wr.drew := below_drew _
    generalize wr.drew = s1 at hSss1 hB_0_s1 ⊢
    have hB_s1_s1 := Below.refl s1.heap.size s1
    refine wpAnyT_pure (i := 1) (v := ?_) rfl (by kernel_rfl) (by kernel_rfl) (by kernel_rfl) (fun _ _ _ h => h) (by rfl) ?_ ?_
    rotate_left
    · intro w; go_simp; try with_reducible rfl
    simp only [Act.put, List.setIfInBounds_toArray, List.set_cons_zero, List.set_cons_succ, List.getElem_toArray, List.getElem_cons_succ, List.getElem_cons_zero]
    refine wpAnyT_pure (i := 2) (v := ?_) rfl (by kernel_rfl) (by kernel_rfl) (by kernel_rfl) (fun _ _ _ h => h) (by rfl) ?_ ?_
    rotate_left
    · intro w; go_simp; try with_reducible rfl
    simp only [Act.put, List.setIfInBounds_toArray, List.set_cons_zero, List.set_cons_succ, List.getElem_toArray, List.getElem_cons_succ, List.getElem_cons_zero]
    refine wpAnyT_pure (i := 3) (v := ?_) rfl (by kernel_rfl) (by kernel_rfl) (by kernel_rfl) (fun _ _ _ h => h) (by rfl) ?_ ?_
    rotate_left
    · intro w; go_simp; try with_reducible rfl
    simp only [Act.put, List.setIfInBounds_toArray, List.set_cons_zero, List.set_cons_succ, List.getElem_toArray, List.getElem_cons_succ, List.getElem_cons_zero]
    refine wpAnyT_loadW (i := 0) (v := ?_) rfl (by kernel_rfl) (by kernel_rfl) (by kernel_rfl) (by kernel_rfl) (by kernel_rfl) (fun _ _ _ h => h) (Or.inl ⟨by rfl, ?_⟩) hSss1 ?_
    rotate_left
    · intro w hSw; obtain ⟨e0, e1, e2, e3, e4, e5, -⟩ := hSw; go_simp; try with_reducible rfl
    simp only [Act.put, List.setIfInBounds_toArray, List.set_cons_zero, List.set_cons_succ, List.getElem_toArray, List.getElem_cons_succ, List.getElem_cons_zero]
    refine wpAnyT_loadW (i := 4) (v := ?_) rfl (by kernel_rfl) (by kernel_rfl) (by kernel_rfl) (by kernel_rfl) (by kernel_rfl) (fun _ _ _ h => h) (Or.inl ⟨by rfl, ?_⟩) hSss1 ?_
    rotate_left
    · intro w hSw; obtain ⟨e0, e1, e2, e3, e4, e5, -⟩ := hSw; go_simp; try with_reducible rfl
    simp only [Act.put, List.setIfInBounds_toArray, List.set_cons_zero, List.set_cons_succ, List.getElem_toArray, List.getElem_cons_succ, List.getElem_cons_zero]
    refine wpAnyT_pure (i := 5) (v := ?_) rfl (by kernel_rfl) (by kernel_rfl) (by kernel_rfl) (fun _ _ _ h => h) (by rfl) ?_ ?_
    rotate_left
    · intro w; go_simp; try with_reducible rfl
    simp only [Act.put, List.setIfInBounds_toArray, List.set_cons_zero, List.set_cons_succ, List.getElem_toArray, List.getElem_cons_succ, List.getElem_cons_zero]
    refine wpAnyT_done (by kernel_rfl) ?_ _
    have HBP := Lib.hid (below_step HB.out (hB_0_s1.trans ((hB_s1_s1).mono (hB_0_s1).size)))
    cases eb
    · go_wp2_with fail
      go_roundw
      case rel => exact ⟨q + 1, HLT.out, by go_num, HNN.out (by first | rfl | trivial), HBP.out⟩
      case measure => simp [intOf]; try omega
    · go_wp2_with fail
      go_ret
      exact ⟨_, rfl, ⟨fun _ => HIN.out (by first | rfl | trivial), fun _ => by omega⟩, below_step HB1.out HBP.out⟩
  · obtain rfl : len = q := by omega
    have HN := Lib.hid (show (⟨k1, k2, k3⟩ : Ky) ∉ l from fun h => by
      obtain ⟨j, hj, e⟩ := List.getElem_of_mem h
      exact HNO.out j hj (by rw [← HL.out]; exact hj) e)
    clear hB
    go_wp2_with fail
    go_ret
    exact ⟨_, rfl, ⟨fun h => absurd h (by decide), fun h => absurd h HN.out⟩, below_step HB1.out HB.out⟩
set_option maxHeartbeats 1000000 in
theorem containsK {S : Nat → Prop} (w : World) (a : Option Addr) (len cap : Nat) (l : List Ky) (hx : Rd (.sl keyT) S w [.slice a len cap] (l.map Ky.d)) (hS : ∀ b, S b → b < w.heap.size) (k : Ky) :
    Calls Try.prog 37 #[.slice a len cap, k.v] w fun e w' => e = .returned (.bool (decide (k ∈ l))) ∧ Below w.heap.size w w' := by
  obtain ⟨k1, k2, k3⟩ := k
  have hB1 := (Below.refl w.heap.size w).alloc (Nat.le_refl _) (.cells #[.string k1, .int .i64 k2, .int .i64 k3] 53)
  have hr := heap_alloc_new w (.cells #[.string k1, .int .i64 k2, .int .i64 k3] 53)
  obtain ⟨mb, hmb⟩ : ∃ mb, decide ((⟨k1, k2, k3⟩ : Ky) ∈ l) = mb := ⟨_, rfl⟩
  rw [hmb]
  have HMB := Lib.hid hmb
  have HI := Lib.hid (indexK _ a len cap l (hx.below hB1 hS) (fun b hb => Nat.lt_of_lt_of_le (hS b hb) hB1.size) ⟨k1, k2, k3⟩)
  have HB1 := Lib.hid hB1
  unfold Ky.v at HI ⊢
  simp only at HI ⊢
  clear hB1 hx hS hr hmb
  go_enter Try.func37, Try.ntmps37
  go_wp2_with fail
  have hX := HI.out
  refine Calls.mono hX ?_
  clear hX
  rintro e w2 ⟨r, rfl, hr, hb⟩
  have HB2 := Lib.hid (below_step HB1.out hb)
  have HD := Lib.hid (show decide (0 ≤ r) = mb from by rw [← HMB.out]; exact decide_eq_decide.2 hr)
  clear hb hr
  go_wp2_with fail
  go_ret
  refine ⟨?_, HB2.out⟩
  show Ending.returned (.bool (decide (0 ≤ r))) = _
  rw [HD.out]
/-- 'delete(m, k)' in a region. -/
theorem wp_delete1 {P : Program} {o : Oper} {a : Act} {w w' : World} {K : Act → World → Prop} {Q : Exit → Act → World → Prop} (m x : Operand) (t k : TypeId) (ho : o.op = .call { callee := .builtin .delete, args := #[m, x], argTypes := #[t, k] }) {mv kv : Value}
    (hm : a.eval m = mv) (hx : a.eval x = kv) (hrun : (Builtin.delete_ #[t, k] o.type #[mv, kv]).run P w = .ok (.tuple #[]) w') (h : K (a.put o.dst (.tuple #[])) w') : o.wp P a w K Q := by
  unfold Oper.wp
  simp [execOp, ho, resolve, invoke, builtin, hm, hx, hrun, Result.andThen]
  exact h
theorem RdL.fst {e : Ty} {S : Nat → Prop} {w : World} : ∀ {xs ys : List e.den} {vs : List Value}, RdL e S w vs (xs ++ ys) → RdL e S w (vs.take (xs.length * e.sz)) xs
  | [], _, _, _ => by simp [RdL]
  | x :: xs, ys, vs, h => by
    obtain ⟨c, r, rfl, h1, h2⟩ := h
    refine ⟨c, r.take (xs.length * e.sz), ?_, h1, RdL.fst h2⟩
    have hc := h1.len
    rw [List.length_cons, Nat.add_mul, Nat.one_mul, Nat.add_comm, ← hc, List.take_length_add_append]
/-- A row of keys without its last one. -/
theorem owns_pop {base : Nat} {w : World} {v : Value} {l : List Ky} {x : Ky} (h : Owns keyT 53 base (fun _ => False) w v ((l ++ [x]).map Ky.d)) :
    ∃ g cap, v = .slice (some ⟨g, 0, none⟩) (l.length + 1) cap ∧ l.length + 1 ≤ cap ∧ cap ≤ 9223372036854775807 ∧ Owns keyT 53 base (fun _ => False) w (.slice (some ⟨g, 0, none⟩) l.length cap) (l.map Ky.d) ∧ x.ok ∧
      w.cell? ⟨g, l.length * 3, none⟩ = some (.string x.task) ∧ w.cell? ⟨g, l.length * 3 + 1, none⟩ = some (.int .i64 x.ent) ∧ w.cell? ⟨g, l.length * 3 + 2, none⟩ = some (.int .i64 x.per) := by
  have hok := owns_ok h x (by simp)
  rcases owns_krow h with ⟨-, h0⟩ | ⟨g, cap, rfl, hb, hc, hm, hK⟩
  · simp at h0
  · have hx := hK.cell l.length (by simp)
    simp only [List.length_append, List.length_cons, List.length_nil] at hc ⊢
    refine ⟨g, cap, rfl, hc, hm, ?_, hok, by simpa using hx.1, by simpa using hx.2.1, by simpa using hx.2.2⟩
    obtain ⟨vs, ⟨hl, hor⟩, hr, hS⟩ := h
    rw [List.length_map] at hl hor
    rcases hor with ⟨he, h0⟩ | ⟨g', cap', cur, he, hb', hg, hc', hm', hs, ht⟩
    · cases he
    · simp only [Value.slice.injEq, Option.some.injEq, Addr.mk.injEq] at he
      obtain ⟨⟨rfl, -⟩, -, rfl⟩ := he
      refine ⟨vs.take (l.length * keyT.sz), ⟨?_, .inr ⟨g, cap, cur, by rw [List.length_map], hb', hg, by rw [List.length_map]; omega, hm', hs, ?_⟩⟩, ?_, fun b hb => hb.elim⟩
      · rw [List.length_take, List.length_map, hl, List.length_append]
        rw [keyT_sz]; simp; try omega
      · rw [← ht, List.take_take, List.length_map, List.length_append]
        congr 1
        rw [keyT_sz]; simp; try omega
      · rw [List.map_append] at hr
        have := hr.fst
        rwa [List.length_map] at this
end Go.Proofs.Ytdcjocldggmdbaa
