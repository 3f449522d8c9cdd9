/- Layer 55: the contracts of chain.Next, Sum, links, its closure, Links, Head, Verify and of the library's Collect and AppendSeq as Links calls them. -/
import Derived.Test.YtkojomakibfncaaC55a
namespace Go.Proofs.Ytkojomakibfncaa
open Go.RowKit Go Go.Shelf
attribute [local go_sem] Oper.semAt_some

theorem stepI_wf (h b : Int) : (Lit.int .u64 (stepI h b)).wf = true := wf_bits _ _ _ _
theorem sumI_wf (h : Int) (xs : List Int) (hh : (Lit.int .u64 h).wf = true) : (Lit.int .u64 (sumI h xs)).wf = true := by
  induction xs generalizing h with
  | nil => exact hh
  | cons x xs ih => exact ih _ (stepI_wf _ _)
theorem nextI_wf (h : Int) (xs : List Int) (hh : (Lit.int .u64 h).wf = true) : (Lit.int .u64 (nextI h xs)).wf = true := sumI_wf _ _ (sumI_wf _ _ hh)
def headI (rs : List (List Int)) : Int := rs.foldl nextI 29793
theorem foldl_nextI_wf (rs : List (List Int)) (h : Int) (hh : (Lit.int .u64 h).wf = true) : (Lit.int .u64 (rs.foldl nextI h)).wf = true := by
  induction rs generalizing h with
  | nil => exact hh
  | cons x xs ih => exact ih _ (nextI_wf _ _ hh)
theorem headI_wf (rs : List (List Int)) : (Lit.int .u64 (headI rs)).wf = true := foldl_nextI_wf _ _ (by decide)
def linksN (rs : List (List Int)) (k : Nat) : List Int := (List.range k).map fun j => headI (rs.take (j + 1))
def linksI (rs : List (List Int)) : List Int := linksN rs rs.length
theorem linksN_succ (rs : List (List Int)) (k : Nat) : linksN rs (k + 1) = linksN rs k ++ [headI (rs.take (k + 1))] := by simp [linksN, List.range_succ]
theorem headI_take (rs : List (List Int)) (k : Nat) (h : k < rs.length) : headI (rs.take (k + 1)) = nextI (headI (rs.take k)) rs[k] := by
  unfold headI
  rw [List.take_succ_eq_append_getElem h, List.foldl_append]; rfl
abbrev U64 := { x : Int // (Lit.int .u64 x).wf = true }
def linkU (rs : List (List Int)) (j : Nat) : U64 := ⟨headI (rs.take (j + 1)), headI_wf _⟩
def linksU (rs : List (List Int)) (k : Nat) : List U64 := (List.range k).map (linkU rs)
theorem linksU_succ (rs : List (List Int)) (k : Nat) : linksU rs (k + 1) = linksU rs k ++ [linkU rs k] := by simp [linksU, List.range_succ]
theorem linksU_length (rs : List (List Int)) (k : Nat) : (linksU rs k).length = k := by simp [linksU]
theorem linksU_val (rs : List (List Int)) (k : Nat) : (linksU rs k).map (·.1) = linksN rs k := by simp [linksU, linksN, linkU]

set_option maxHeartbeats 400000 in
theorem Next_any {S : Nat → Prop} (h : Int) (a : Option Addr) (len cap : Nat) (xs : List Int) (w : World) (hS : ∀ b, S b → b < w.heap.size) (hx : Rd (.sl (.int .u8)) S w [.slice a len cap] xs) :
    Calls Try.prog 28 #[.int .u64 h, .slice a len cap] w fun e w' => e = .returned (.int .u64 (nextI h xs)) ∧ Below w.heap.size w w' := by
  have HX := Lib.hid hx
  clear hx
  go_enter Try.func28, Try.ntmps28
  go_wp2_with (go_at_call 42; refine (next_any _ _ _ _ _ _ hS HX.out).mono ?_; rintro e w' ⟨rfl, hB⟩)
  go_ret
  exact ⟨rfl, hB⟩

set_option maxHeartbeats 400000 in
theorem links_any (a : Option Addr) (len cap : Nat) (w : World) :
    Calls Try.prog 40 #[.slice a len cap] w fun e w' => e = .returned (.func (.func 47) #[] #[.pointer (some ⟨w.heap.size, 0, none⟩)]) ∧ w' = w.alloc (.cells #[.slice a len cap] 28) := by
  go_enter Try.func40, Try.ntmps40
  go_wp2
  go_ret
  exact ⟨rfl, rfl⟩

/-- What has been read, where the world has only grown. -/
theorem Rd.rows {S : Nat → Prop} {w : World} {a : Option Addr} {len cap : Nat} {rs : List (List Int)} (h : Rd (.sl (.sl (.int .u8))) S w [.slice a len cap] rs) :
    rs.length = len ∧ len ≤ cap ∧ cap ≤ 9223372036854775807 ∧ ∀ i (hi : i < rs.length), ∃ b off a' len' cap', a = some ⟨b, off, none⟩ ∧ S b ∧ w.cell? ⟨b, off + i, none⟩ = some (.slice a' len' cap') ∧ Rd (.sl (.int .u8)) S w [.slice a' len' cap'] rs[i] := by
  obtain ⟨h1, h2, h3, h4⟩ := Rd.sl1 (e := .sl (.int .u8)) rfl h
  refine ⟨h1, h2, h3, fun i hi => ?_⟩
  obtain ⟨b, off, v, ha, hb, hc, hr⟩ := h4 i hi
  obtain ⟨a', l', c', hv, _⟩ := id hr
  simp only [List.cons.injEq, and_true] at hv
  subst hv
  exact ⟨b, off, a', l', c', ha, hb, hc, hr⟩

set_option maxRecDepth 100000 in
set_option maxHeartbeats 2000000 in
/-- links' closure: the links come one by one. -/
theorem links1_in (n : Nat) (l Bs n₀ len cap : Nat) (a : Option Addr) (rs : List (List Int)) (J Jx : List U64 → World → Prop)
    (hY : ∀ pre x W, J pre W → pre.length < rs.length → YieldAt Fence.wide (n - 1) Try.prog l #[.int .u64 x.1] W fun e W' =>
      (e = .returned (.bool true) ∧ J (pre ++ [x]) W' ∧ Below n₀ W W') ∨ (e = .returned (.bool false) ∧ Jx (pre ++ [x]) W'))
    (W : World) (hn₀ : n₀ ≤ W.heap.size) (hJ : ∀ s A B, J s A → W.heap.size ≤ A.heap.size → Below A.heap.size A B → J s B)
    (hBs : W.cell? ⟨Bs, 0, none⟩ = some (.slice a len cap)) (hR : Rd (.sl (.sl (.int .u8))) (fun b => b < n₀) W [.slice a len cap] rs) (h0 : J [] W) :
    CallsIn Fence.wide n Try.prog 47 #[.func (.yield l) #[] #[], .pointer (some ⟨Bs, 0, none⟩)] W fun e W' => (∃ v, e = .returned v) ∧
      ((∃ ys, ys = linksU rs rs.length ∧ J ys W') ∨ (∃ pre, (∃ k, k ≤ rs.length ∧ pre = linksU rs k) ∧ Jx pre W')) := by
  obtain ⟨hl, hc, hm, -⟩ := hR.rows
  have HR := Lib.hid hR
  have HL := Lib.hid hl
  have HJ := Lib.hid hJ
  clear hR hl hJ
  have hlen : rs.length ≤ len := by have := HL.out; omega
  have hlen' : len ≤ rs.length := by have := HL.out; omega
  refine callsIn_of_wp Try.func47 rfl trivial ?_ rfl
  simp only [Try.ntmps47, List.size_toArray, List.length_cons, List.length_nil, Nat.reduceAdd, Nat.reduceSub, Array.replicate_succ, Array.replicate_zero, List.push_toArray, List.append_toArray, List.nil_append, List.cons_append]
  gi_wp2
  gi_loopw [3, 8] (fun h i wr => ∃ k : Nat, k ≤ len ∧ i = .int .i64 k ∧ h = .int .u64 (headI (rs.take k)) ∧ J (linksU rs k) wr ∧ Below n₀ W wr)
    (fun _ i _ => len - (intOf i).toNat)
  case atStart => exact ⟨0, Nat.zero_le _, rfl, rfl, h0, Below.refl _ _⟩
  case round =>
    obtain ⟨k, hk, rfl, rfl, hJs, hnx⟩ := hrel
    by_cases hlt : k < len
    · have hkr : k < rs.length := by omega
      obtain ⟨-, -, -, hrows⟩ := HR.out.rows
      obtain ⟨b, off, a', len', cap', rfl, hb, hcell, hrow⟩ := hrows k hkr
      clear hrows
      have hcx : wr.cell? ⟨b, off + k, none⟩ = some (.slice a' len' cap') := (hnx.cell (p := ⟨b, off + k, none⟩) hb).trans hcell
      have hwr := hnx.size
      have HX := Lib.hid (hrow.below hnx (fun _ h => h))
      have HS := Lib.hid (headI_take rs k hkr)
      have HJs := Lib.hid hJs
      clear hrow hcell hJs
      gi_wp2_with fail
      refine call_wide ((next_any _ _ _ _ _ _ (fun b hb => Nat.lt_of_lt_of_le hb (Nat.le_trans hn₀ hwr)) HX.out).mono ?_)
      rintro e w1 ⟨rfl, hB1⟩
      obtain ⟨fn, tmps, assign, body, hy, hYR⟩ := hY _ (linkU rs k) w1 (HJ.out _ _ _ HJs.out hwr hB1) (by rw [linksU_length]; exact hkr)
      rw [show (linkU rs k).1 = nextI (headI (rs.take k)) rs[k] from HS.out] at hy
      have HB := Lib.hid (hnx.trans (hB1.mono (Nat.le_trans hn₀ hwr)))
      clear hB1 hnx hY
      gi_wp2
      refine ⟨fun h => by simp [Fence.wide] at h, hYR.mono ?_⟩
      rintro e W3 (⟨rfl, hJ3, hk3⟩ | ⟨rfl, hJx3⟩)
      · gi_wp2
        go_roundw
        case rel => exact ⟨k + 1, by omega, by simp, by rw [HS.out], by rw [linksU_succ]; exact hJ3, HB.out.trans hk3⟩
        case measure => simp [intOf]; omega
      · gi_wp2
        refine bodyPost_ret (results_none rfl _ _ _) rfl ?_
        exact ⟨⟨_, rfl⟩, .inr ⟨_, ⟨k + 1, by omega, (linksU_succ _ _).symm⟩, hJx3⟩⟩
    · obtain rfl : k = len := by omega
      gi_wp2
      go_end0
      exact ⟨⟨_, rfl⟩, .inl ⟨_, rfl, by rw [HL.out]; exact hJs⟩⟩

theorem links_stops (n : Nat) (Bs n₀ len cap : Nat) (a : Option Addr) (rs : List (List Int)) (w : World) (hn₀ : n₀ ≤ w.heap.size)
    (hBs : w.cell? ⟨Bs, 0, none⟩ = some (.slice a len cap)) (hR : Rd (.sl (.sl (.int .u8))) (fun b => b < n₀) w [.slice a len cap] rs) :
    SeqStopsK Fence.wide n Try.prog 47 #[.pointer (some ⟨Bs, 0, none⟩)] (fun x : U64 => #[Value.int .u64 x.1]) (Below n₀) (fun ys => ys = linksU rs rs.length)
      (fun pre => ∃ k, k ≤ rs.length ∧ pre = linksU rs k) rs.length w := fun l J Jx W hW hJ hJx hY h0 => by
  have hBs' := (hW.cell (p := ⟨Bs, 0, none⟩) (World.block_lt_of_cell? w ⟨Bs, 0, none⟩ hBs)).trans hBs
  exact links1_in n l Bs n₀ len cap a rs J Jx hY W (Nat.le_trans hn₀ hW.size) (fun s A B hs _ hAB => hJ s A B none hs (grownBy_of_below hAB none) (fun r e => by cases e)) hBs' (hR.below (hW.mono hn₀) (fun _ h => h)) h0

theorem info_u64 : (Try.prog.info? 44).map (fun i => (i.zero, i.size, i.bytes)) = some (some (.int .u64 0), 1, 8) := by kernel_rfl

/-- What a loop over the links does to the world, where its body appends to a slice in a variable of its own. -/
def ColI (B T : Nat) (w : World) (xs : List U64) (W : World) : Prop :=
  ∃ v, Boxed W T 63 v ∧ Owns (.int .u64) 44 B (fun _ => False) W v (xs.map (·.1)) ∧ Below B w W ∧ v.ownBlock ≠ some T

theorem ColI.ownFrom (B T D : Nat) (w : World) (hB : B ≤ w.heap.size) (hD : B ≤ D) : OwnFrom D (ColI B T w) := by
  intro s W W' row h hg hr
  obtain ⟨v, hb, ho, hbel, hne⟩ := h
  have hrow : ∀ (k : Nat) (o : Obj), W.heap[k]? = some o → o.isCells = true → W'.heap[k]? = W.heap[k]? := by
    intro k o hk ho'
    refine hg.block k (Array.getElem?_eq_some_iff.1 hk).1 (fun e => ?_)
    obtain ⟨_, o', ho', hc'⟩ := hr k e.symm
    rw [hk] at ho'
    cases ho'
    simp_all
  refine ⟨v, (hrow T _ hb rfl).trans hb, ho.keep (fun b hb' => ?_) hg.size, ?_, hne⟩
  · rcases hb' with hb' | hb'
    · exact hb'.elim
    · obtain ⟨o, h1, h2⟩ := ho.row_cells b hb'
      exact hrow b o h1 h2
  · exact ownFrom_below (β := Unit) (n₀ := B) (B := D) (w₀ := w) hB hD () W W' row hbel hg hr

end Go.Proofs.Ytkojomakibfncaa
