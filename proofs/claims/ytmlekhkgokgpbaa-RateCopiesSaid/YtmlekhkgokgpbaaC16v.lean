/- Layer 16: the reference's New and Set. -/
import Derived.Test.YtmlekhkgokgpbaaP16
import Derived.Test.YtmlekhkgokgpbaaC16g
import Derived.Laws.ResultCell
set_option linter.unusedSimpArgs false
namespace Go.Proofs.Ytmlekhkgokgpbaa
open Go.RowKit Go

theorem rdOwn {e : Ty} {te : TypeId} {base : Nat} {w : World} {v : Value} {xs : List e.den} (h : Owns e te base (fun _ => False) w v xs) : Rd (.sl e) (fun b => b < w.heap.size) w [v] xs := h.rd _ (fun _ h => h.elim) (fun c hc => (h.own c hc).2)
theorem oldS {S : Nat → Prop} {w w' : World} (hS : ∀ b, S b → b < w.heap.size) (hB : Below w.heap.size w w') : ∀ b, (S b ∨ (w.heap.size ≤ b ∧ b < w'.heap.size)) → b < w'.heap.size := fun b hb => hb.elim (fun h => Nat.lt_of_lt_of_le (hS b h) hB.size) (fun h => h.2)
theorem results_row_tmp {P : Program} {fn : Func} {p u : Tmp} {ty : TypeId} (h : fn.results = #[.cell p ty, .tmp u]) (tmps : Array Value) (w : World) (g : Nat) (t : TypeId) (cs : Array Value) (fr : Nat × Nat) (d : TypeDesc)
    (hp : tmps.getD p undef = .pointer (some ⟨g, 0, none⟩)) (hg : w.heap[g]? = some (.cells cs t fr))
    (hu : P.underlying ty = some d) (hd : (match d with | .struct _ | .array _ _ => true | _ => false) = true) (hi : (P.info? ty).map (·.size) = some cs.size) {x : Value} (hx : tmps.getD u undef = x) :
    (results fn tmps).run P w = .ok (.tuple #[.agg cs, x]) w := by
  rw [results_cell_tmp h, hp, hx]
  simp [asAddr, Result.andThen, run_loadVar_row w g t ty cs fr d hg hu hd hi]
/-- A table of the reference: its history and its current rates, read. -/
def RefT (S : Nat → Prop) (w : World) (v : Value) (g : ByteArray) (hs L : List rateT.den) : Prop :=
  (∀ b, S b → b < w.heap.size) ∧ ∃ ha hl hc la ll lc, v = .agg #[.string g, .slice ha hl hc, .slice la ll lc] ∧ Rd (.sl rateT) S w [.slice ha hl hc] hs ∧ Rd (.sl rateT) S w [.slice la ll lc] L
theorem RefT.gr {S F : Nat → Prop} {w w' : World} {v : Value} {g : ByteArray} {hs L : List rateT.den} (h : RefT S w v g hs L) (hG : Gr F w w') (hF : ∀ b, S b → ¬ F b) : RefT S w' v g hs L := by
  obtain ⟨h0, ha, hl, hc, la, ll, lc, rfl, h1, h2⟩ := h
  exact ⟨fun b hb => Nat.lt_of_lt_of_le (h0 b hb) hG.size, ha, hl, hc, la, ll, lc, rfl, h1.gr hG (fun b hb => ⟨h0 b hb, hF b hb⟩) (fun _ h => h), h2.gr hG (fun b hb => ⟨h0 b hb, hF b hb⟩) (fun _ h => h)⟩
theorem RefT.below {S : Nat → Prop} {w w' : World} {v : Value} {g : ByteArray} {hs L : List rateT.den} (h : RefT S w v g hs L) (hB : Below w.heap.size w w') : RefT S w' v g hs L :=
  h.gr (F := fun _ => False) (Gr.of_below hB) (fun _ _ h => h)
theorem refNew_sum (w : World) (g : ByteArray) (hg : g.size ≤ maxLen) (hcb : curB g = true) :
    Calls Try.prog 14 #[.string g] w fun e w' => ∃ v, e = .returned (.tuple #[v, .int .i64 0]) ∧ RefT (fun _ => False) w' v g [] [] ∧ Below w.heap.size w w' := by
  go_enter Try.func14, Try.ntmps14
  go_wp2_with (go_at_call 29; refine (refCurrency_sum _ g hg).mono ?_; rw [hcb]; rintro e w2 ⟨rfl, rfl⟩)
  refine bodyPost_ret (results_row_tmp (P := Try.prog) rfl _ _ w.heap.size 30 _ (0, 0) _ (by kernel_rfl) (heap_alloc_new w _) Try.underlying30 rfl (by kernel_rfl) (x := .int .i64 0) (by kernel_rfl)) rfl ?_
  exact ⟨_, rfl, ⟨fun _ h => h.elim, none, 0, 0, none, 0, 0, rfl, ⟨none, 0, 0, rfl, rfl, Nat.le_refl _, by omega, .inl rfl⟩, ⟨none, 0, 0, rfl, rfl, Nat.le_refl _, by omega, .inl rfl⟩⟩, (Below.refl _ w).alloc (Nat.le_refl _) _⟩
theorem refNew_bad (w : World) (g : ByteArray) (hg : g.size ≤ maxLen) (hcb : curB g = false) :
    Calls Try.prog 14 #[.string g] w fun e w' => e = .returned (.tuple #[.agg #[.string ⟨#[]⟩, .slice none 0 0, .slice none 0 0], .int .i64 1]) ∧ Below w.heap.size w w' := by
  go_enter Try.func14, Try.ntmps14
  go_wp2_with (go_at_call 29; refine (refCurrency_sum _ g hg).mono ?_; rw [hcb]; rintro e w2 ⟨rfl, rfl⟩)
  refine bodyPost_ret (results_row_tmp (P := Try.prog) rfl _ _ w.heap.size 30 _ (0, 0) _ (by kernel_rfl) (heap_alloc_new w _) Try.underlying30 rfl (by kernel_rfl) (x := .int .i64 1) (by kernel_rfl)) rfl ?_
  exact ⟨rfl, (Below.refl _ w).alloc (Nat.le_refl _) _⟩

/-- What the walk of Set needs to know of a world. -/
structure RS (w : World) (n : Nat) (g : ByteArray) (ha : Option Addr) (hl hc : Nat) (la : Option Addr) (ll lc : Nat) (rc : ByteArray) (rk rw_ rv : Int) (W : World) : Prop where
  bA : W.heap[n]? = some (.cells #[.string g, .slice ha hl hc, .slice la ll lc] 30 (0, 0))
  bB : W.heap[n + 1]? = some (.cells #[.string rc, .int .i64 rk, .int .i64 rw_, .int .i64 rv] 35 (0, 0))
  bC : W.heap[n + 2]? = some (.cells #[.string ⟨#[]⟩, .slice none 0 0, .slice none 0 0] 30 (0, 0))
  below : Below w.heap.size w W
  n_eq : n = w.heap.size
theorem RS.step {w : World} {n : Nat} {g : ByteArray} {ha : Option Addr} {hl hc : Nat} {la : Option Addr} {ll lc : Nat} {rc : ByteArray} {rk rw_ rv : Int} {W W' : World} (h : RS w n g ha hl hc la ll lc rc rk rw_ rv W) (hB : Below W.heap.size W W') : RS w n g ha hl hc la ll lc rc rk rw_ rv W' :=
  ⟨(hB.block _ (blk_lt h.bA)).trans h.bA, (hB.block _ (blk_lt h.bB)).trans h.bB, (hB.block _ (blk_lt h.bC)).trans h.bC, below_step h.below hB, h.n_eq⟩
theorem RS.cells {w : World} {n : Nat} {g : ByteArray} {ha : Option Addr} {hl hc : Nat} {la : Option Addr} {ll lc : Nat} {rc : ByteArray} {rk rw_ rv : Int} {W : World} (h : RS w n g ha hl hc la ll lc rc rk rw_ rv W) :
    (W.cell? ⟨n, 0, none⟩ = some (.string g) ∧ W.cell? ⟨n, 1, none⟩ = some (.slice ha hl hc) ∧ W.cell? ⟨n, 2, none⟩ = some (.slice la ll lc)) ∧
    (W.cell? ⟨n + 1, 0, none⟩ = some (.string rc) ∧ W.cell? ⟨n + 1, 1, none⟩ = some (.int .i64 rk) ∧ W.cell? ⟨n + 1, 2, none⟩ = some (.int .i64 rw_) ∧ W.cell? ⟨n + 1, 3, none⟩ = some (.int .i64 rv)) ∧
    (W.cell? ⟨n + 2, 0, none⟩ = some (.string ⟨#[]⟩) ∧ W.cell? ⟨n + 2, 1, none⟩ = some (.slice none 0 0) ∧ W.cell? ⟨n + 2, 2, none⟩ = some (.slice none 0 0)) ∧
    (W.frozen? ⟨n + 2, 0, none⟩ = false ∧ W.frozen? ⟨n + 2, 1, none⟩ = false ∧ W.frozen? ⟨n + 2, 2, none⟩ = false) :=
  ⟨⟨blk_cell h.bA 0, blk_cell h.bA 1, blk_cell h.bA 2⟩, ⟨blk_cell h.bB 0, blk_cell h.bB 1, blk_cell h.bB 2, blk_cell h.bB 3⟩, ⟨blk_cell h.bC 0, blk_cell h.bC 1, blk_cell h.bC 2⟩, ⟨blk_frozen h.bC 0, blk_frozen h.bC 1, blk_frozen h.bC 2⟩⟩
theorem RS.start (w : World) (g : ByteArray) (ha : Option Addr) (hl hc : Nat) (la : Option Addr) (ll lc : Nat) (rc : ByteArray) (rk rw_ rv : Int) :
    RS w w.heap.size g ha hl hc la ll lc rc rk rw_ rv (((w.alloc (.cells #[.string g, .slice ha hl hc, .slice la ll lc] 30)).alloc (.cells #[.string rc, .int .i64 rk, .int .i64 rw_, .int .i64 rv] 35)).alloc (.cells #[.string ⟨#[]⟩, .slice none 0 0, .slice none 0 0] 30)) := by
  refine ⟨?_, ?_, ?_, ((((Below.refl _ w).alloc (Nat.le_refl _) _).alloc (by simp) _).alloc (by simp; omega) _), rfl⟩
  · rw [heap_alloc_old, heap_alloc_old]
    · exact heap_alloc_new _ _
    all_goals simp
    all_goals omega
  · rw [heap_alloc_old]
    · exact heap_alloc2_new _ _ _
    · simp
  · have := heap_alloc_new ((w.alloc (.cells #[.string g, .slice ha hl hc, .slice la ll lc] 30)).alloc (.cells #[.string rc, .int .i64 rk, .int .i64 rw_, .int .i64 rv] 35)) (.cells #[.string ⟨#[]⟩, .slice none 0 0, .slice none 0 0] 30)
    have hz : ((w.alloc (.cells #[.string g, .slice ha hl hc, .slice la ll lc] 30)).alloc (.cells #[.string rc, .int .i64 rk, .int .i64 rw_, .int .i64 rv] 35)).heap.size = w.heap.size + 2 := by simp
    rw [hz] at this
    exact this
def RefSetPost (S : Nat → Prop) (w : World) (g : ByteArray) (s : Int × List rateT.den × List rateT.den) (e : Ending) (w' : World) : Prop :=
  ∃ v', e = .returned (.tuple #[v', .int .i64 s.1]) ∧ RefT (fun b => S b ∨ (w.heap.size ≤ b ∧ b < w'.heap.size)) w' v' g s.2.1 s.2.2 ∧ Below w.heap.size w w'
theorem Below.setRow' {n p : Nat} {w W : World} (h : Below n w W) (hp : n ≤ p) (cs : Array Value) : Below n w (W.setRow p cs) :=
  ⟨h.os, h.tape, h.output, by simpa using h.size, fun k hk => (setRow_other W p k _ (by omega)).trans (h.block k hk)⟩
theorem RS.fin {w : World} {n : Nat} {g : ByteArray} {ha : Option Addr} {hl hc : Nat} {la : Option Addr} {ll lc : Nat} {rc : ByteArray} {rk rw_ rv : Int} {W : World} (h : RS w n g ha hl hc la ll lc rc rk rw_ rv W) (x y z : Value) :
    (((W.setCell ⟨n + 1 + 1, 0, none⟩ x).setCell ⟨n + 1 + 1, 1, none⟩ y).setCell ⟨n + 1 + 1, 2, none⟩ z).heap[n + 1 + 1]? = some (.cells #[x, y, z] 30 (0, 0)) ∧
    Below w.heap.size w (((W.setCell ⟨n + 1 + 1, 0, none⟩ x).setCell ⟨n + 1 + 1, 1, none⟩ y).setCell ⟨n + 1 + 1, 2, none⟩ z) := by
  have e := h.n_eq
  exact ⟨blk_set (blk_set (blk_set h.bC x) y) z, ((h.below.setCell (by show _ ≤ n + 1 + 1; omega) x).setCell (by show _ ≤ n + 1 + 1; omega) y).setCell (by show _ ≤ n + 1 + 1; omega) z⟩
set_option maxRecDepth 20000 in
set_option maxHeartbeats 1000000 in
theorem refSet_bad {S : Nat → Prop} (w : World) (g : ByteArray) (ha : Option Addr) (hl hc : Nat) (la : Option Addr) (ll lc : Nat) (hs L : List rateT.den) (hS : ∀ b, S b → b < w.heap.size) (h1 : Rd (.sl rateT) S w [.slice ha hl hc] hs) (h2 : Rd (.sl rateT) S w [.slice la ll lc] L) (rc : ByteArray) (rk rw_ rv : Int) (hok : (⟨rc, rk, rw_⟩ : K3).ok) (hv : (Lit.int .i64 rv).wf = true) (hp : properB g rc rk rw_ rv = false) :
    Calls Try.prog 15 #[.agg #[.string g, .slice ha hl hc, .slice la ll lc], .agg #[.string rc, .int .i64 rk, .int .i64 rw_, .int .i64 rv]] w (RefSetPost S w g (1, hs, L)) := by
  have hpp := fun W => refProper_sum W g rc rk rw_ rv hok.1
  rw [hp] at hpp
  unfold rateV at hpp
  have HS := Lib.hid hS
  have H1 := Lib.hid h1
  have H2 := Lib.hid h2
  have HOK := Lib.hid hok
  have HV := Lib.hid hv
  have HR0 := Lib.hid (RS.start w g ha hl hc la ll lc rc rk rw_ rv)
  clear hS h1 h2 hp hok hv
  go_enter Try.func15, Try.ntmps15
  go_wp2_with (go_at_call 33; refine (hpp _).mono ?_; rintro e w2 ⟨rfl, hB2⟩; have HR2 := Lib.hid (HR0.out.step hB2); clear hB2; obtain ⟨⟨k0, k1, k2⟩, ⟨q0, q1, q2, q3⟩, ⟨z0, z1, z2⟩, ⟨f0, f1, f2⟩⟩ := HR2.out.cells)
  obtain ⟨hblk, hbel⟩ := HR2.out.fin (.string g) (.slice ha hl hc) (.slice la ll lc)
  refine bodyPost_ret (results_row_tmp (P := Try.prog) rfl _ _ (w.heap.size + 1 + 1) 30 _ (0, 0) _ (by kernel_rfl) hblk Try.underlying30 rfl (by kernel_rfl) (x := .int .i64 1) (by kernel_rfl)) rfl ?_
  exact ⟨_, rfl, ⟨oldS HS.out hbel, ha, hl, hc, la, ll, lc, rfl, H1.out.keep (fun b hb => hbel.block b (HS.out b hb)) (fun b hb => .inl hb), H2.out.keep (fun b hb => hbel.block b (HS.out b hb)) (fun b hb => .inl hb)⟩, hbel⟩
set_option maxRecDepth 20000 in
set_option maxHeartbeats 1000000 in
theorem refSet_good {S : Nat → Prop} (w : World) (g : ByteArray) (ha : Option Addr) (hl hc : Nat) (la : Option Addr) (ll lc : Nat) (hs L : List rateT.den) (hS : ∀ b, S b → b < w.heap.size) (h1 : Rd (.sl rateT) S w [.slice ha hl hc] hs) (h2 : Rd (.sl rateT) S w [.slice la ll lc] L) (rc : ByteArray) (rk rw_ rv : Int) (hok : (⟨rc, rk, rw_⟩ : K3).ok) (hv : (Lit.int .i64 rv).wf = true) (hp : properB g rc rk rw_ rv = true) (hhl : hs.length ≤ 1000000) (hll : L.length ≤ 1000000) (fx : Int) (fb : Bool) (hq : findV L ⟨rc, rk, rw_, 0⟩ = (fx, fb)) (res : Int × List rateT.den × List rateT.den) (hr6 : ((fb = false ∧ 1000 ≤ L.length) ∨ 5000 ≤ hs.length) → res = (6, hs, L)) (hr0 : ¬ ((fb = false ∧ 1000 ≤ L.length) ∨ 5000 ≤ hs.length) → res = (0, hs ++ [(rc, rk, rw_, rv, ())], putL L ⟨rc, rk, rw_, rv⟩)) :
    Calls Try.prog 15 #[.agg #[.string g, .slice ha hl hc, .slice la ll lc], .agg #[.string rc, .int .i64 rk, .int .i64 rw_, .int .i64 rv]] w (RefSetPost S w g res) := by
  have hpp := fun W => refProper_sum W g rc rk rw_ rv hok.1
  rw [hp] at hpp
  unfold rateV at hpp
  have HS := Lib.hid hS
  have H1 := Lib.hid h1
  have H2 := Lib.hid h2
  have HOK := Lib.hid hok
  have HV := Lib.hid hv
  have HR0 := Lib.hid (RS.start w g ha hl hc la ll lc rc rk rw_ rv)
  have hfd := fun W (hB : Below w.heap.size w W) => refFind_sum W la ll lc L rc rk rw_ (h2.below hB hS) (fun b hb => Nat.lt_of_lt_of_le (hS b hb) hB.size)
  rw [hq] at hfd
  obtain ⟨e1, -⟩ := h1.sl_flat
  obtain ⟨e2, -⟩ := h2.sl_flat
  have q1 : decide ((1000 : Int) ≤ (ll : Int)) = true ↔ 1000 ≤ L.length := by rw [decide_eq_true_iff, e2]; omega
  have q2 : decide ((5000 : Int) ≤ (hl : Int)) = true ↔ 5000 ≤ hs.length := by rw [decide_eq_true_iff, e1]; omega
  try simp only at hfd
  have hput := fun W (hB : Below w.heap.size w W) => refPut_sum W la ll lc L (h2.below hB hS) (fun b hb => Nat.lt_of_lt_of_le (hS b hb) hB.size) ⟨rc, rk, rw_, rv⟩ hok hv (by omega)
  unfold Rt.v rateV at hput
  simp only at hput
  obtain ⟨d1, hd1⟩ : ∃ d, decide ((1000 : Int) ≤ (ll : Int)) = d := ⟨_, rfl⟩
  obtain ⟨d2, hd2⟩ : ∃ d, decide ((5000 : Int) ≤ (hl : Int)) = d := ⟨_, rfl⟩
  rw [hd1] at q1
  rw [hd2] at q2
  rw [← q1, ← q2] at hr6 hr0
  have HR6 := Lib.hid hr6
  have HR00 := Lib.hid hr0
  have HFD := Lib.hid hfd
  have HP := Lib.hid hput
  have HE1 := Lib.hid e1
  have HHL := Lib.hid (show hl ≤ 1000000 by omega)
  clear hS h1 h2 hp hok hv hq hfd hr6 hr0 hput e1 e2 hhl hll q1 q2
  go_enter Try.func15, Try.ntmps15
  go_wp2_with (first | (go_at_call 33; refine (hpp _).mono ?_; rintro e w2 ⟨rfl, hB2⟩; have HR2 := Lib.hid (HR0.out.step hB2); clear hB2; obtain ⟨⟨k0, k1, k2⟩, ⟨q0, q1, q2, q3⟩, ⟨z0, z1, z2⟩, ⟨f0, f1, f2⟩⟩ := HR2.out.cells) | (go_at_call 27; refine (HFD.out _ HR2.out.below).mono ?_; rintro e w3 ⟨rfl, hB3⟩; have HR3 := Lib.hid (HR2.out.step hB3); clear hB3 k0 k1 k2 q0 q1 q2 q3 z0 z1 z2 f0 f1 f2; obtain ⟨⟨k0, k1, k2⟩, ⟨q0, q1, q2, q3⟩, ⟨z0, z1, z2⟩, ⟨f0, f1, f2⟩⟩ := HR3.out.cells))
  all_goals try (
    have e6 := HR6.out (by simp [*])
    subst e6
    obtain ⟨hblk, hbel⟩ := HR3.out.fin (.string g) (.slice ha hl hc) (.slice la ll lc)
    refine bodyPost_ret (results_row_tmp (P := Try.prog) rfl _ _ (w.heap.size + 1 + 1) 30 _ (0, 0) _ (by kernel_rfl) hblk Try.underlying30 rfl (by kernel_rfl) (x := .int .i64 6) (by kernel_rfl)) rfl ?_
    exact ⟨_, rfl, ⟨oldS HS.out hbel, ha, hl, hc, la, ll, lc, rfl, H1.out.keep (fun b hb => hbel.block b (HS.out b hb)) (fun b hb => .inl hb), H2.out.keep (fun b hb => hbel.block b (HS.out b hb)) (fun b hb => .inl hb)⟩, hbel⟩)
  all_goals
    have e0 := HR00.out (by simp [*])
    subst e0
    clear HR6 HR00
    go_wp2_with fail
    have hC0 : Cells [(⟨w.heap.size, 0, none⟩, .string g), (⟨w.heap.size, 1, none⟩, .slice ha hl hc), (⟨w.heap.size, 2, none⟩, .slice la ll lc), (⟨w.heap.size + 1, 0, none⟩, .string rc), (⟨w.heap.size + 1, 1, none⟩, .int .i64 rk), (⟨w.heap.size + 1, 2, none⟩, .int .i64 rw_), (⟨w.heap.size + 1, 3, none⟩, .int .i64 rv)] w3 := ⟨k0, k1, k2, q0, q1, q2, q3, trivial⟩
    clear k0 k1 k2 q0 q1 q2 q3 z0 z1 z2 f0 f1 f2
    refine wp_region_T (Cells [(⟨w.heap.size, 0, none⟩, .string g), (⟨w.heap.size, 1, none⟩, .slice ha hl hc), (⟨w.heap.size, 2, none⟩, .slice la ll lc), (⟨w.heap.size + 1, 0, none⟩, .string rc), (⟨w.heap.size + 1, 1, none⟩, .int .i64 rk), (⟨w.heap.size + 1, 2, none⟩, .int .i64 rw_), (⟨w.heap.size + 1, 3, none⟩, .int .i64 rv)]) (fun i => i == 14) (by kernel_rfl) ?_
    have hSss1 := Cells.drew hC0
    have hB_0_s1 : Below w3.heap.size w3 w3.drew := below_drew _
    generalize w3.drew = s1 at hSss1 hB_0_s1 ⊢
    have hB_s1_s1 := Below.refl s1.heap.size s1
    refine wpAnyT_pure (i := 0) (v := ?_) rfl (by kernel_rfl) (by kernel_rfl) (by kernel_rfl) (fun _ _ _ h => h) (by rfl) ?_ ?_
    rotate_left
    · intro w; go_simp; try with_reducible rfl
    simp only [Act.put, List.setIfInBounds_toArray, List.set_cons_zero, List.set_cons_succ, List.getElem_toArray, List.getElem_cons_succ, List.getElem_cons_zero]
    refine wpAnyT_pure (i := 3) (v := ?_) rfl (by kernel_rfl) (by kernel_rfl) (by kernel_rfl) (fun _ _ _ h => h) (by rfl) ?_ ?_
    rotate_left
    · intro w; go_simp; try with_reducible rfl
    simp only [Act.put, List.setIfInBounds_toArray, List.set_cons_zero, List.set_cons_succ, List.getElem_toArray, List.getElem_cons_succ, List.getElem_cons_zero]
    refine wpAnyT_pure (i := 9) (v := ?_) rfl (by kernel_rfl) (by kernel_rfl) (by kernel_rfl) (fun _ _ _ h => h) (by rfl) ?_ ?_
    rotate_left
    · intro w; go_simp; try with_reducible rfl
    simp only [Act.put, List.setIfInBounds_toArray, List.set_cons_zero, List.set_cons_succ, List.getElem_toArray, List.getElem_cons_succ, List.getElem_cons_zero]
    refine wpAnyT_loadW (i := 1) (v := ?_) rfl (by kernel_rfl) (by kernel_rfl) (by kernel_rfl) (by kernel_rfl) (by kernel_rfl) (fun _ _ _ h => h) (Or.inl ⟨by rfl, ?_⟩) hSss1 ?_
    rotate_left
    · intro w hSw; obtain ⟨e0, e1, e2, e3, e4, e5, e6, -⟩ := hSw; go_simp; try with_reducible rfl
    simp only [Act.put, List.setIfInBounds_toArray, List.set_cons_zero, List.set_cons_succ, List.getElem_toArray, List.getElem_cons_succ, List.getElem_cons_zero]
    refine wpAnyT_loadW (i := 4) (v := ?_) rfl (by kernel_rfl) (by kernel_rfl) (by kernel_rfl) (by kernel_rfl) (by kernel_rfl) (fun _ _ _ h => h) (Or.inl ⟨by rfl, ?_⟩) hSss1 ?_
    rotate_left
    · intro w hSw; obtain ⟨e0, e1, e2, e3, e4, e5, e6, -⟩ := hSw; go_simp; try with_reducible rfl
    simp only [Act.put, List.setIfInBounds_toArray, List.set_cons_zero, List.set_cons_succ, List.getElem_toArray, List.getElem_cons_succ, List.getElem_cons_zero]
    refine wpAnyT_loadW (i := 6) (v := ?_) rfl (by kernel_rfl) (by kernel_rfl) (by kernel_rfl) (by kernel_rfl) (by kernel_rfl) (fun _ _ _ h => h) (Or.inl ⟨by rfl, ?_⟩) hSss1 ?_
    rotate_left
    · intro w hSw; obtain ⟨e0, e1, e2, e3, e4, e5, e6, -⟩ := hSw; go_simp; try with_reducible rfl
    simp only [Act.put, List.setIfInBounds_toArray, List.set_cons_zero, List.set_cons_succ, List.getElem_toArray, List.getElem_cons_succ, List.getElem_cons_zero]
    refine wpAnyT_loadW (i := 10) (v := ?_) rfl (by kernel_rfl) (by kernel_rfl) (by kernel_rfl) (by kernel_rfl) (by kernel_rfl) (fun _ _ _ h => h) (Or.inl ⟨by rfl, ?_⟩) hSss1 ?_
    rotate_left
    · intro w hSw; obtain ⟨e0, e1, e2, e3, e4, e5, e6, -⟩ := hSw; go_simp; try with_reducible rfl
    simp only [Act.put, List.setIfInBounds_toArray, List.set_cons_zero, List.set_cons_succ, List.getElem_toArray, List.getElem_cons_succ, List.getElem_cons_zero]
    refine wpAnyT_loadW (i := 11) (v := ?_) rfl (by kernel_rfl) (by kernel_rfl) (by kernel_rfl) (by kernel_rfl) (by kernel_rfl) (fun _ _ _ h => h) (Or.inl ⟨by rfl, ?_⟩) hSss1 ?_
    rotate_left
    · intro w hSw; obtain ⟨e0, e1, e2, e3, e4, e5, e6, -⟩ := hSw; go_simp; try with_reducible rfl
    simp only [Act.put, List.setIfInBounds_toArray, List.set_cons_zero, List.set_cons_succ, List.getElem_toArray, List.getElem_cons_succ, List.getElem_cons_zero]
    refine wpAnyT_two (i := 2) (k := 7) (by kernel_rfl) rfl rfl (by rfl) (by rfl) ?_ ?_
    · skip
      obtain ⟨b2, hb2⟩ : ∃ b, s1.heap.size = b := ⟨_, rfl⟩
      have hge2 : s1.heap.size ≤ b2 := hb2 ▸ (hB_s1_s1).size
      refine wp_newrow (v := .slice (some ⟨b2, 0, none⟩) 0 0) (cs := #[]) (te := 35) (by rw [← hb2]; go_simp) ?_
      intro w102 hX hN2
      rw [hb2] at hN2
      have hB_s1_w102 := below_step hB_s1_s1 hX
      have hB_w102_w102 := Below.refl w102.heap.size w102
      have hSsw102 := Cells.below hB_s1_w102 hSss1
      clear hX
      refine ⟨fun _ _ => hSsw102, ?_⟩
      try simp only [Act.put, List.setIfInBounds_toArray, List.set_cons_zero, List.set_cons_succ, List.getElem_toArray, List.getElem_cons_succ, List.getElem_cons_zero]
      refine wpAnyT_two (i := 5) (k := 7) (by kernel_rfl) rfl rfl (by rfl) (by rfl) ?_ ?_
      · skip
        have hq2 := ((hB_w102_w102).block _ (blk_lt hN2)).trans hN2
        have hb0 : Below w.heap.size w w102 := below_step HR3.out.below ((hB_0_s1).trans ((hB_s1_w102).mono (hB_0_s1).size))
        refine wp_appLit (.tmp 43) (.tmp 45) 22 rfl (e := rateT) (te := 35) info_rate Try.underlying22 rfl (by decide) (S := S) (base := s1.heap.size) (b := b2) (by kernel_rfl) hq2 hge2 (sv := .slice ha hl hc) (by kernel_rfl) (ys := hs) (H1.out.below hb0 HS.out) (fun x hx => ⟨by have := HS.out x hx; have := hb0.size; have h1 := HR3.out.below.size; have h2 := (hB_0_s1).size; omega, Nat.lt_of_lt_of_le (HS.out x hx) hb0.size⟩) (by have := HE1.out; have := HHL.out; omega) (by have := HE1.out; have := HHL.out; omega) ?_
        intro ca5 cl5 cc5 w103 O5 hX
        have HO5 := Lib.hid (Owns.flat (e := rateT) rfl O5)
        clear O5 hb0
        have hB_s1_w103 := below_step hB_s1_w102 hX
        have hB_w102_w103 := below_step hB_w102_w102 hX
        have hB_w103_w103 := Below.refl w103.heap.size w103
        have hSsw103 := Cells.below hB_s1_w103 hSss1
        clear hX
        refine ⟨fun _ _ => hSsw103, ?_⟩
        try simp only [Act.put, List.setIfInBounds_toArray, List.set_cons_zero, List.set_cons_succ, List.getElem_toArray, List.getElem_cons_succ, List.getElem_cons_zero]
        refine wpAnyT_one (i := 7) (by kernel_rfl) rfl (by rfl) ?_
        obtain ⟨b7, hb7⟩ : ∃ b, w103.heap.size = b := ⟨_, rfl⟩
        refine wp_newrow (v := .slice (some ⟨b7, 0, none⟩) 1 1) (cs := #[.string rc, .int .i64 rk, .int .i64 rw_, .int .i64 rv]) (te := 35) (by rw [← hb7]; go_simp) ?_
        intro w104 hX hN7
        rw [hb7] at hN7
        have hB_s1_w104 := below_step hB_s1_w103 hX
        have hB_w102_w104 := below_step hB_w102_w103 hX
        have hB_w103_w104 := below_step hB_w103_w103 hX
        have hB_w104_w104 := Below.refl w104.heap.size w104
        have hSsw104 := Cells.below hB_s1_w104 hSss1
        clear hX
        refine ⟨fun _ _ => hSsw104, ?_⟩
        try simp only [Act.put, List.setIfInBounds_toArray, List.set_cons_zero, List.set_cons_succ, List.getElem_toArray, List.getElem_cons_succ, List.getElem_cons_zero]
        refine wpAnyT_one (i := 8) (by kernel_rfl) rfl (by rfl) ?_
        have hq7 := ((hB_w104_w104).block _ (blk_lt hN7)).trans hN7
        refine wp_app (.tmp 46) (.tmp 48) 22 rfl (e := rateT) (te := 35) info_rate Try.underlying22 rfl (by decide) (base := s1.heap.size) (S := fun _ => False) (v := .slice ca5 cl5 cc5) (xs := hs) (by kernel_rfl) (HO5.out.below hB_w103_w104) (hB_s1_w104).size (sv := .slice (some ⟨b7, 0, none⟩) 1 1) (by kernel_rfl) (ys := [(rc, rk, rw_, rv, ())]) (Src.of_cells (news := [.string rc, .int .i64 rk, .int .i64 rw_, .int .i64 rv]) (fun j u hu => by rw [Nat.zero_add, blk_cell hq7]; simpa using hu)) (RdL.one (e := rateT) (rate_rd HOK.out HV.out)) (by have := HE1.out; have := HHL.out; simp only [List.length_cons, List.length_nil]; omega) (by have := HE1.out; have := HHL.out; simp only [List.length_cons, List.length_nil]; omega) ?_
        intro ca8 cl8 cc8 w105 O8 g8 ob8
        have hX : Below s1.heap.size s1 w105 := (hB_s1_w104).grown g8 (hB_s1_w104).size (fun c hc => (HO5.out.own c hc).1)
        have HO8 := Lib.hid O8
        clear O8 g8 ob8
        have hB_s1_w105 := hX
        have hB_w105_w105 := Below.refl w105.heap.size w105
        have hSsw105 := Cells.below hB_s1_w105 hSss1
        clear hX
        refine ⟨fun _ _ => hSsw105, ?_⟩
        try simp only [Act.put, List.setIfInBounds_toArray, List.set_cons_zero, List.set_cons_succ, List.getElem_toArray, List.getElem_cons_succ, List.getElem_cons_zero]
        refine wpAnyT_one (i := 12) (by kernel_rfl) rfl (by rfl) ?_
        have hb0 : Below w.heap.size w w105 := below_step HR3.out.below ((hB_0_s1).trans ((hB_s1_w105).mono (hB_0_s1).size))
        refine wp_enter (f := 34) (args := #[.slice la ll lc, .agg #[.string rc, .int .i64 rk, .int .i64 rw_, .int .i64 rv]]) (by go_simp) (HP.out _ hb0) ?_
        rintro e w106 ⟨v12, rfl, hX, O12⟩
        obtain ⟨ca12, cl12, cc12, rfl, -⟩ := O12.slice
        have HO12 := Lib.hid (O12.base (hB_s1_w105).size)
        have HO8' := Lib.hid (HO8.out.below hX)
        clear O12 hb0
        have hB_s1_w106 := below_step hB_s1_w105 hX
        have hB_w105_w106 := below_step hB_w105_w105 hX
        have hB_w106_w106 := Below.refl w106.heap.size w106
        have hSsw106 := Cells.below hB_s1_w106 hSss1
        clear hX
        refine ⟨_, rfl, fun _ _ => hSsw106, ?_⟩
        try simp only [Act.put, List.setIfInBounds_toArray, List.set_cons_zero, List.set_cons_succ, List.getElem_toArray, List.getElem_cons_succ, List.getElem_cons_zero]
        refine wpAnyT_pure (i := 13) (v := ?_) rfl (by kernel_rfl) (by kernel_rfl) (by kernel_rfl) (fun _ _ _ h => h) (by rfl) ?_ ?_
        rotate_left
        · intro w; go_simp; try with_reducible rfl
        simp only [Act.put, List.setIfInBounds_toArray, List.set_cons_zero, List.set_cons_succ, List.getElem_toArray, List.getElem_cons_succ, List.getElem_cons_zero]
        refine wpAnyT_one (i := 14) (by kernel_rfl) rfl (by rfl) ?_
        have hR := HR3.out.step ((hB_0_s1).trans ((hB_s1_w106).mono (hB_0_s1).size))
        have hCC := hR.bC
        refine wp_store_row 30 (.tmp 4) (.tmp 54) rfl (w.heap.size + 2) #[.string g, .slice ca8 cl8 cc8, .slice ca12 cl12 cc12] (by kernel_rfl) (by kernel_rfl) 30 _ hCC (by kernel_rfl) (by rfl) (by simp [Value.oneCell']) ?_
        have hblk := setRow_heap (w106) (w.heap.size + 2) _ #[.string g, .slice ca8 cl8 cc8, .slice ca12 cl12 cc12] _ _ hCC
        have hbel := Below.setRow' hR.below (p := w.heap.size + 2) (by omega) #[.string g, .slice ca8 cl8 cc8, .slice ca12 cl12 cc12]
        have hgr : Gr (fun b => b = w.heap.size + 2) (w106) ((w106).setRow (w.heap.size + 2) #[.string g, .slice ca8 cl8 cc8, .slice ca12 cl12 cc12]) := ⟨rfl, rfl, rfl, by simp, fun k hk hf => setRow_other _ _ _ _ hf⟩
        have hsS : w.heap.size + 2 < s1.heap.size := by have := blk_lt HR3.out.bC; have := (hB_0_s1).size; omega
        generalize (w106).setRow (w.heap.size + 2) #[.string g, .slice ca8 cl8 cc8, .slice ca12 cl12 cc12] = w107 at hblk hbel hgr ⊢
        have HF8 := Lib.hid (HO8'.out.gr hgr (fun _ h => h.elim) (fun c hc e => by have := (HO8'.out.own c hc).1; omega))
        have HF12 := Lib.hid (HO12.out.gr hgr (fun _ h => h.elim) (fun c hc e => by have := (HO12.out.own c hc).1; omega))
        refine ⟨fun h => absurd h (by decide), ?_⟩
        try simp only [Act.put, List.setIfInBounds_toArray, List.set_cons_zero, List.set_cons_succ, List.getElem_toArray, List.getElem_cons_succ, List.getElem_cons_zero]
        refine wpAnyT_pure (i := 15) (v := ?_) rfl (by kernel_rfl) (by kernel_rfl) (by kernel_rfl) (fun _ _ _ h => h) (by rfl) ?_ ?_
        rotate_left
        · intro w; go_simp; try with_reducible rfl
        simp only [Act.put, List.setIfInBounds_toArray, List.set_cons_zero, List.set_cons_succ, List.getElem_toArray, List.getElem_cons_succ, List.getElem_cons_zero]
        refine wpAnyT_done (by kernel_rfl) ?_ _
        go_wp2_with fail
        refine bodyPost_ret (results_row_tmp (P := Try.prog) rfl _ _ (w.heap.size + 1 + 1) 30 _ (0, 0) _ (by kernel_rfl) hblk Try.underlying30 rfl (by kernel_rfl) (x := .int .i64 0) (by kernel_rfl)) rfl ?_
        exact ⟨_, rfl, ⟨oldS HS.out hbel, ca8, cl8, cc8, ca12, cl12, cc12, rfl, HF8.out.rd _ (fun _ h => h.elim) (fun c hc => .inr ⟨by have := (HF8.out.own c hc).1; omega, (HF8.out.own c hc).2⟩), HF12.out.rd _ (fun _ h => h.elim) (fun c hc => .inr ⟨by have := (HF12.out.own c hc).1; omega, (HF12.out.own c hc).2⟩)⟩, hbel⟩
      · skip
        obtain ⟨b7, hb7⟩ : ∃ b, w102.heap.size = b := ⟨_, rfl⟩
        refine wp_newrow (v := .slice (some ⟨b7, 0, none⟩) 1 1) (cs := #[.string rc, .int .i64 rk, .int .i64 rw_, .int .i64 rv]) (te := 35) (by rw [← hb7]; go_simp) ?_
        intro w108 hX hN7
        rw [hb7] at hN7
        have hB_s1_w108 := below_step hB_s1_w102 hX
        have hB_w102_w108 := below_step hB_w102_w102 hX
        have hB_w108_w108 := Below.refl w108.heap.size w108
        have hSsw108 := Cells.below hB_s1_w108 hSss1
        clear hX
        refine ⟨fun _ _ => hSsw108, ?_⟩
        try simp only [Act.put, List.setIfInBounds_toArray, List.set_cons_zero, List.set_cons_succ, List.getElem_toArray, List.getElem_cons_succ, List.getElem_cons_zero]
        refine wpAnyT_one (i := 5) (by kernel_rfl) rfl (by rfl) ?_
        have hq2 := ((hB_w102_w108).block _ (blk_lt hN2)).trans hN2
        have hb0 : Below w.heap.size w w108 := below_step HR3.out.below ((hB_0_s1).trans ((hB_s1_w108).mono (hB_0_s1).size))
        refine wp_appLit (.tmp 43) (.tmp 45) 22 rfl (e := rateT) (te := 35) info_rate Try.underlying22 rfl (by decide) (S := S) (base := s1.heap.size) (b := b2) (by kernel_rfl) hq2 hge2 (sv := .slice ha hl hc) (by kernel_rfl) (ys := hs) (H1.out.below hb0 HS.out) (fun x hx => ⟨by have := HS.out x hx; have := hb0.size; have h1 := HR3.out.below.size; have h2 := (hB_0_s1).size; omega, Nat.lt_of_lt_of_le (HS.out x hx) hb0.size⟩) (by have := HE1.out; have := HHL.out; omega) (by have := HE1.out; have := HHL.out; omega) ?_
        intro ca5 cl5 cc5 w109 O5 hX
        have HO5 := Lib.hid (Owns.flat (e := rateT) rfl O5)
        clear O5 hb0
        have hB_s1_w109 := below_step hB_s1_w108 hX
        have hB_w102_w109 := below_step hB_w102_w108 hX
        have hB_w108_w109 := below_step hB_w108_w108 hX
        have hB_w109_w109 := Below.refl w109.heap.size w109
        have hSsw109 := Cells.below hB_s1_w109 hSss1
        clear hX
        refine ⟨fun _ _ => hSsw109, ?_⟩
        try simp only [Act.put, List.setIfInBounds_toArray, List.set_cons_zero, List.set_cons_succ, List.getElem_toArray, List.getElem_cons_succ, List.getElem_cons_zero]
        refine wpAnyT_one (i := 8) (by kernel_rfl) rfl (by rfl) ?_
        have hq7 := ((hB_w108_w109).block _ (blk_lt hN7)).trans hN7
        refine wp_app (.tmp 46) (.tmp 48) 22 rfl (e := rateT) (te := 35) info_rate Try.underlying22 rfl (by decide) (base := s1.heap.size) (S := fun _ => False) (v := .slice ca5 cl5 cc5) (xs := hs) (by kernel_rfl) (HO5.out.below hB_w109_w109) (hB_s1_w109).size (sv := .slice (some ⟨b7, 0, none⟩) 1 1) (by kernel_rfl) (ys := [(rc, rk, rw_, rv, ())]) (Src.of_cells (news := [.string rc, .int .i64 rk, .int .i64 rw_, .int .i64 rv]) (fun j u hu => by rw [Nat.zero_add, blk_cell hq7]; simpa using hu)) (RdL.one (e := rateT) (rate_rd HOK.out HV.out)) (by have := HE1.out; have := HHL.out; simp only [List.length_cons, List.length_nil]; omega) (by have := HE1.out; have := HHL.out; simp only [List.length_cons, List.length_nil]; omega) ?_
        intro ca8 cl8 cc8 w110 O8 g8 ob8
        have hX : Below s1.heap.size s1 w110 := (hB_s1_w109).grown g8 (hB_s1_w109).size (fun c hc => (HO5.out.own c hc).1)
        have HO8 := Lib.hid O8
        clear O8 g8 ob8
        have hB_s1_w110 := hX
        have hB_w110_w110 := Below.refl w110.heap.size w110
        have hSsw110 := Cells.below hB_s1_w110 hSss1
        clear hX
        refine ⟨fun _ _ => hSsw110, ?_⟩
        try simp only [Act.put, List.setIfInBounds_toArray, List.set_cons_zero, List.set_cons_succ, List.getElem_toArray, List.getElem_cons_succ, List.getElem_cons_zero]
        refine wpAnyT_one (i := 12) (by kernel_rfl) rfl (by rfl) ?_
        have hb0 : Below w.heap.size w w110 := below_step HR3.out.below ((hB_0_s1).trans ((hB_s1_w110).mono (hB_0_s1).size))
        refine wp_enter (f := 34) (args := #[.slice la ll lc, .agg #[.string rc, .int .i64 rk, .int .i64 rw_, .int .i64 rv]]) (by go_simp) (HP.out _ hb0) ?_
        rintro e w111 ⟨v12, rfl, hX, O12⟩
        obtain ⟨ca12, cl12, cc12, rfl, -⟩ := O12.slice
        have HO12 := Lib.hid (O12.base (hB_s1_w110).size)
        have HO8' := Lib.hid (HO8.out.below hX)
        clear O12 hb0
        have hB_s1_w111 := below_step hB_s1_w110 hX
        have hB_w110_w111 := below_step hB_w110_w110 hX
        have hB_w111_w111 := Below.refl w111.heap.size w111
        have hSsw111 := Cells.below hB_s1_w111 hSss1
        clear hX
        refine ⟨_, rfl, fun _ _ => hSsw111, ?_⟩
        try simp only [Act.put, List.setIfInBounds_toArray, List.set_cons_zero, List.set_cons_succ, List.getElem_toArray, List.getElem_cons_succ, List.getElem_cons_zero]
        refine wpAnyT_pure (i := 13) (v := ?_) rfl (by kernel_rfl) (by kernel_rfl) (by kernel_rfl) (fun _ _ _ h => h) (by rfl) ?_ ?_
        rotate_left
        · intro w; go_simp; try with_reducible rfl
        simp only [Act.put, List.setIfInBounds_toArray, List.set_cons_zero, List.set_cons_succ, List.getElem_toArray, List.getElem_cons_succ, List.getElem_cons_zero]
        refine wpAnyT_one (i := 14) (by kernel_rfl) rfl (by rfl) ?_
        have hR := HR3.out.step ((hB_0_s1).trans ((hB_s1_w111).mono (hB_0_s1).size))
        have hCC := hR.bC
        refine wp_store_row 30 (.tmp 4) (.tmp 54) rfl (w.heap.size + 2) #[.string g, .slice ca8 cl8 cc8, .slice ca12 cl12 cc12] (by kernel_rfl) (by kernel_rfl) 30 _ hCC (by kernel_rfl) (by rfl) (by simp [Value.oneCell']) ?_
        have hblk := setRow_heap (w111) (w.heap.size + 2) _ #[.string g, .slice ca8 cl8 cc8, .slice ca12 cl12 cc12] _ _ hCC
        have hbel := Below.setRow' hR.below (p := w.heap.size + 2) (by omega) #[.string g, .slice ca8 cl8 cc8, .slice ca12 cl12 cc12]
        have hgr : Gr (fun b => b = w.heap.size + 2) (w111) ((w111).setRow (w.heap.size + 2) #[.string g, .slice ca8 cl8 cc8, .slice ca12 cl12 cc12]) := ⟨rfl, rfl, rfl, by simp, fun k hk hf => setRow_other _ _ _ _ hf⟩
        have hsS : w.heap.size + 2 < s1.heap.size := by have := blk_lt HR3.out.bC; have := (hB_0_s1).size; omega
        generalize (w111).setRow (w.heap.size + 2) #[.string g, .slice ca8 cl8 cc8, .slice ca12 cl12 cc12] = w112 at hblk hbel hgr ⊢
        have HF8 := Lib.hid (HO8'.out.gr hgr (fun _ h => h.elim) (fun c hc e => by have := (HO8'.out.own c hc).1; omega))
        have HF12 := Lib.hid (HO12.out.gr hgr (fun _ h => h.elim) (fun c hc e => by have := (HO12.out.own c hc).1; omega))
        refine ⟨fun h => absurd h (by decide), ?_⟩
        try simp only [Act.put, List.setIfInBounds_toArray, List.set_cons_zero, List.set_cons_succ, List.getElem_toArray, List.getElem_cons_succ, List.getElem_cons_zero]
        refine wpAnyT_pure (i := 15) (v := ?_) rfl (by kernel_rfl) (by kernel_rfl) (by kernel_rfl) (fun _ _ _ h => h) (by rfl) ?_ ?_
        rotate_left
        · intro w; go_simp; try with_reducible rfl
        simp only [Act.put, List.setIfInBounds_toArray, List.set_cons_zero, List.set_cons_succ, List.getElem_toArray, List.getElem_cons_succ, List.getElem_cons_zero]
        refine wpAnyT_done (by kernel_rfl) ?_ _
        go_wp2_with fail
        refine bodyPost_ret (results_row_tmp (P := Try.prog) rfl _ _ (w.heap.size + 1 + 1) 30 _ (0, 0) _ (by kernel_rfl) hblk Try.underlying30 rfl (by kernel_rfl) (x := .int .i64 0) (by kernel_rfl)) rfl ?_
        exact ⟨_, rfl, ⟨oldS HS.out hbel, ca8, cl8, cc8, ca12, cl12, cc12, rfl, HF8.out.rd _ (fun _ h => h.elim) (fun c hc => .inr ⟨by have := (HF8.out.own c hc).1; omega, (HF8.out.own c hc).2⟩), HF12.out.rd _ (fun _ h => h.elim) (fun c hc => .inr ⟨by have := (HF12.out.own c hc).1; omega, (HF12.out.own c hc).2⟩)⟩, hbel⟩
    · skip
      obtain ⟨b7, hb7⟩ : ∃ b, s1.heap.size = b := ⟨_, rfl⟩
      refine wp_newrow (v := .slice (some ⟨b7, 0, none⟩) 1 1) (cs := #[.string rc, .int .i64 rk, .int .i64 rw_, .int .i64 rv]) (te := 35) (by rw [← hb7]; go_simp) ?_
      intro w113 hX hN7
      rw [hb7] at hN7
      have hB_s1_w113 := below_step hB_s1_s1 hX
      have hB_w113_w113 := Below.refl w113.heap.size w113
      have hSsw113 := Cells.below hB_s1_w113 hSss1
      clear hX
      refine ⟨fun _ _ => hSsw113, ?_⟩
      try simp only [Act.put, List.setIfInBounds_toArray, List.set_cons_zero, List.set_cons_succ, List.getElem_toArray, List.getElem_cons_succ, List.getElem_cons_zero]
      refine wpAnyT_one (i := 2) (by kernel_rfl) rfl (by rfl) ?_
      obtain ⟨b2, hb2⟩ : ∃ b, w113.heap.size = b := ⟨_, rfl⟩
      have hge2 : s1.heap.size ≤ b2 := hb2 ▸ (hB_s1_w113).size
      refine wp_newrow (v := .slice (some ⟨b2, 0, none⟩) 0 0) (cs := #[]) (te := 35) (by rw [← hb2]; go_simp) ?_
      intro w114 hX hN2
      rw [hb2] at hN2
      have hB_s1_w114 := below_step hB_s1_w113 hX
      have hB_w113_w114 := below_step hB_w113_w113 hX
      have hB_w114_w114 := Below.refl w114.heap.size w114
      have hSsw114 := Cells.below hB_s1_w114 hSss1
      clear hX
      refine ⟨fun _ _ => hSsw114, ?_⟩
      try simp only [Act.put, List.setIfInBounds_toArray, List.set_cons_zero, List.set_cons_succ, List.getElem_toArray, List.getElem_cons_succ, List.getElem_cons_zero]
      refine wpAnyT_one (i := 5) (by kernel_rfl) rfl (by rfl) ?_
      have hq2 := ((hB_w114_w114).block _ (blk_lt hN2)).trans hN2
      have hb0 : Below w.heap.size w w114 := below_step HR3.out.below ((hB_0_s1).trans ((hB_s1_w114).mono (hB_0_s1).size))
      refine wp_appLit (.tmp 43) (.tmp 45) 22 rfl (e := rateT) (te := 35) info_rate Try.underlying22 rfl (by decide) (S := S) (base := s1.heap.size) (b := b2) (by kernel_rfl) hq2 hge2 (sv := .slice ha hl hc) (by kernel_rfl) (ys := hs) (H1.out.below hb0 HS.out) (fun x hx => ⟨by have := HS.out x hx; have := hb0.size; have h1 := HR3.out.below.size; have h2 := (hB_0_s1).size; omega, Nat.lt_of_lt_of_le (HS.out x hx) hb0.size⟩) (by have := HE1.out; have := HHL.out; omega) (by have := HE1.out; have := HHL.out; omega) ?_
      intro ca5 cl5 cc5 w115 O5 hX
      have HO5 := Lib.hid (Owns.flat (e := rateT) rfl O5)
      clear O5 hb0
      have hB_s1_w115 := below_step hB_s1_w114 hX
      have hB_w113_w115 := below_step hB_w113_w114 hX
      have hB_w114_w115 := below_step hB_w114_w114 hX
      have hB_w115_w115 := Below.refl w115.heap.size w115
      have hSsw115 := Cells.below hB_s1_w115 hSss1
      clear hX
      refine ⟨fun _ _ => hSsw115, ?_⟩
      try simp only [Act.put, List.setIfInBounds_toArray, List.set_cons_zero, List.set_cons_succ, List.getElem_toArray, List.getElem_cons_succ, List.getElem_cons_zero]
      refine wpAnyT_one (i := 8) (by kernel_rfl) rfl (by rfl) ?_
      have hq7 := ((hB_w113_w115).block _ (blk_lt hN7)).trans hN7
      refine wp_app (.tmp 46) (.tmp 48) 22 rfl (e := rateT) (te := 35) info_rate Try.underlying22 rfl (by decide) (base := s1.heap.size) (S := fun _ => False) (v := .slice ca5 cl5 cc5) (xs := hs) (by kernel_rfl) (HO5.out.below hB_w115_w115) (hB_s1_w115).size (sv := .slice (some ⟨b7, 0, none⟩) 1 1) (by kernel_rfl) (ys := [(rc, rk, rw_, rv, ())]) (Src.of_cells (news := [.string rc, .int .i64 rk, .int .i64 rw_, .int .i64 rv]) (fun j u hu => by rw [Nat.zero_add, blk_cell hq7]; simpa using hu)) (RdL.one (e := rateT) (rate_rd HOK.out HV.out)) (by have := HE1.out; have := HHL.out; simp only [List.length_cons, List.length_nil]; omega) (by have := HE1.out; have := HHL.out; simp only [List.length_cons, List.length_nil]; omega) ?_
      intro ca8 cl8 cc8 w116 O8 g8 ob8
      have hX : Below s1.heap.size s1 w116 := (hB_s1_w115).grown g8 (hB_s1_w115).size (fun c hc => (HO5.out.own c hc).1)
      have HO8 := Lib.hid O8
      clear O8 g8 ob8
      have hB_s1_w116 := hX
      have hB_w116_w116 := Below.refl w116.heap.size w116
      have hSsw116 := Cells.below hB_s1_w116 hSss1
      clear hX
      refine ⟨fun _ _ => hSsw116, ?_⟩
      try simp only [Act.put, List.setIfInBounds_toArray, List.set_cons_zero, List.set_cons_succ, List.getElem_toArray, List.getElem_cons_succ, List.getElem_cons_zero]
      refine wpAnyT_one (i := 12) (by kernel_rfl) rfl (by rfl) ?_
      have hb0 : Below w.heap.size w w116 := below_step HR3.out.below ((hB_0_s1).trans ((hB_s1_w116).mono (hB_0_s1).size))
      refine wp_enter (f := 34) (args := #[.slice la ll lc, .agg #[.string rc, .int .i64 rk, .int .i64 rw_, .int .i64 rv]]) (by go_simp) (HP.out _ hb0) ?_
      rintro e w117 ⟨v12, rfl, hX, O12⟩
      obtain ⟨ca12, cl12, cc12, rfl, -⟩ := O12.slice
      have HO12 := Lib.hid (O12.base (hB_s1_w116).size)
      have HO8' := Lib.hid (HO8.out.below hX)
      clear O12 hb0
      have hB_s1_w117 := below_step hB_s1_w116 hX
      have hB_w116_w117 := below_step hB_w116_w116 hX
      have hB_w117_w117 := Below.refl w117.heap.size w117
      have hSsw117 := Cells.below hB_s1_w117 hSss1
      clear hX
      refine ⟨_, rfl, fun _ _ => hSsw117, ?_⟩
      try simp only [Act.put, List.setIfInBounds_toArray, List.set_cons_zero, List.set_cons_succ, List.getElem_toArray, List.getElem_cons_succ, List.getElem_cons_zero]
      refine wpAnyT_pure (i := 13) (v := ?_) rfl (by kernel_rfl) (by kernel_rfl) (by kernel_rfl) (fun _ _ _ h => h) (by rfl) ?_ ?_
      rotate_left
      · intro w; go_simp; try with_reducible rfl
      simp only [Act.put, List.setIfInBounds_toArray, List.set_cons_zero, List.set_cons_succ, List.getElem_toArray, List.getElem_cons_succ, List.getElem_cons_zero]
      refine wpAnyT_one (i := 14) (by kernel_rfl) rfl (by rfl) ?_
      have hR := HR3.out.step ((hB_0_s1).trans ((hB_s1_w117).mono (hB_0_s1).size))
      have hCC := hR.bC
      refine wp_store_row 30 (.tmp 4) (.tmp 54) rfl (w.heap.size + 2) #[.string g, .slice ca8 cl8 cc8, .slice ca12 cl12 cc12] (by kernel_rfl) (by kernel_rfl) 30 _ hCC (by kernel_rfl) (by rfl) (by simp [Value.oneCell']) ?_
      have hblk := setRow_heap (w117) (w.heap.size + 2) _ #[.string g, .slice ca8 cl8 cc8, .slice ca12 cl12 cc12] _ _ hCC
      have hbel := Below.setRow' hR.below (p := w.heap.size + 2) (by omega) #[.string g, .slice ca8 cl8 cc8, .slice ca12 cl12 cc12]
      have hgr : Gr (fun b => b = w.heap.size + 2) (w117) ((w117).setRow (w.heap.size + 2) #[.string g, .slice ca8 cl8 cc8, .slice ca12 cl12 cc12]) := ⟨rfl, rfl, rfl, by simp, fun k hk hf => setRow_other _ _ _ _ hf⟩
      have hsS : w.heap.size + 2 < s1.heap.size := by have := blk_lt HR3.out.bC; have := (hB_0_s1).size; omega
      generalize (w117).setRow (w.heap.size + 2) #[.string g, .slice ca8 cl8 cc8, .slice ca12 cl12 cc12] = w118 at hblk hbel hgr ⊢
      have HF8 := Lib.hid (HO8'.out.gr hgr (fun _ h => h.elim) (fun c hc e => by have := (HO8'.out.own c hc).1; omega))
      have HF12 := Lib.hid (HO12.out.gr hgr (fun _ h => h.elim) (fun c hc e => by have := (HO12.out.own c hc).1; omega))
      refine ⟨fun h => absurd h (by decide), ?_⟩
      try simp only [Act.put, List.setIfInBounds_toArray, List.set_cons_zero, List.set_cons_succ, List.getElem_toArray, List.getElem_cons_succ, List.getElem_cons_zero]
      refine wpAnyT_pure (i := 15) (v := ?_) rfl (by kernel_rfl) (by kernel_rfl) (by kernel_rfl) (fun _ _ _ h => h) (by rfl) ?_ ?_
      rotate_left
      · intro w; go_simp; try with_reducible rfl
      simp only [Act.put, List.setIfInBounds_toArray, List.set_cons_zero, List.set_cons_succ, List.getElem_toArray, List.getElem_cons_succ, List.getElem_cons_zero]
      refine wpAnyT_done (by kernel_rfl) ?_ _
      go_wp2_with fail
      refine bodyPost_ret (results_row_tmp (P := Try.prog) rfl _ _ (w.heap.size + 1 + 1) 30 _ (0, 0) _ (by kernel_rfl) hblk Try.underlying30 rfl (by kernel_rfl) (x := .int .i64 0) (by kernel_rfl)) rfl ?_
      exact ⟨_, rfl, ⟨oldS HS.out hbel, ca8, cl8, cc8, ca12, cl12, cc12, rfl, HF8.out.rd _ (fun _ h => h.elim) (fun c hc => .inr ⟨by have := (HF8.out.own c hc).1; omega, (HF8.out.own c hc).2⟩), HF12.out.rd _ (fun _ h => h.elim) (fun c hc => .inr ⟨by have := (HF12.out.own c hc).1; omega, (HF12.out.own c hc).2⟩)⟩, hbel⟩
theorem refSet_sum {S : Nat → Prop} (w : World) (v : Value) (g : ByteArray) (hs L : List rateT.den) (h : RefT S w v g hs L) (r : Rt) (hok : r.k.ok) (hv : (Lit.int .i64 r.val).wf = true) (hhl : hs.length ≤ 1000000) (hll : L.length ≤ 1000000) :
    Calls Try.prog 15 #[v, r.v] w (RefSetPost S w g (rset g (hs, L) r)) := by
  obtain ⟨hS, ha, hl, hc, la, ll, lc, rfl, h1, h2⟩ := h
  obtain ⟨rc, rk, rw_, rv⟩ := r
  unfold rset
  simp only
  by_cases hp : properB g rc rk rw_ rv = false
  · rw [if_pos hp]
    exact refSet_bad w g ha hl hc la ll lc hs L hS h1 h2 rc rk rw_ rv hok hv hp
  · rw [if_neg hp]
    exact refSet_good w g ha hl hc la ll lc hs L hS h1 h2 rc rk rw_ rv hok hv (by simpa using hp) hhl hll (findV L ⟨rc, rk, rw_, 0⟩).1 (findV L ⟨rc, rk, rw_, 0⟩).2 rfl _ (fun h => if_pos h) (fun h => if_neg h)
end Go.Proofs.Ytmlekhkgokgpbaa
