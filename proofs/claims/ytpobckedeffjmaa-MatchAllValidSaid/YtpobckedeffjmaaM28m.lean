/- Layer 28: many. -/
import Derived.Test.YtpobckedeffjmaaM28l
set_option linter.unusedSimpArgs false
set_option maxRecDepth 50000
namespace Go.Proofs.Ytpobckedeffjmaa
open Go.RowKit Go
attribute [local go_sem] Oper.semAt_some

theorem subs42 (w : World) (k : Int) : Calls Try.prog 42 #[.int .i64 k] w fun e w' => e = .returned (.func (.func 50) #[] #[.pointer (some ⟨w.heap.size, 0, none⟩)]) ∧ w' = w.alloc (.cells #[.int .i64 k] 3) := by
  go_enter Try.func42, Try.ntmps42
  go_wp2_with fail
  go_ret
  exact ⟨rfl, rfl⟩
theorem owns_int {te : TypeId} {base : Nat} {w : World} {a : Option Addr} {n c : Nat} {l : List Nat} (h : Owns (.int .i64) te base (fun _ => False) w (.slice a n c) (l.map fun n : Nat => (n : Int))) (i : Nat) (hi : i < l.length) :
    ∃ g, a = some ⟨g, 0, none⟩ ∧ base ≤ g ∧ g < w.heap.size ∧ w.cell? ⟨g, i, none⟩ = some (.int .i64 (l[i] : Int)) := by
  obtain ⟨-, -, -, vs, hr, hor⟩ := (h.rd (fun b => (Value.slice a n c).ownBlock = some b) (fun _ h => h.elim) (fun b hb => hb)).sl_flat
  obtain ⟨c', hc, hcc, hrd⟩ := hr.at_ i (by rw [List.length_map]; exact hi)
  rw [List.getElem_map] at hrd
  rcases h.len with ⟨he, h0⟩ | ⟨g, cap, he, hbg, hgw, -⟩
  · have := List.map_eq_nil_iff.1 h0
    rw [this] at hi; simp at hi
  · simp only [Value.slice.injEq] at he
    obtain ⟨rfl, hn, rfl⟩ := he
    rcases hor with h0 | ⟨b, off, he2, hb, hcell⟩
    · rw [List.length_map] at hn; omega
    · simp only [Option.some.injEq, Addr.mk.injEq, and_true] at he2
      obtain ⟨rfl, rfl⟩ := he2
      obtain ⟨rfl, -⟩ := hrd
      refine ⟨_, rfl, hbg, hgw, ?_⟩
      have := hcell _ _ (hcc 0 _ rfl)
      simpa [Ty.sz] using this
theorem subsL_lt {k m : Nat} (hk : k ≤ 12) (hm : m ∈ subsL k) : m < 4096 := by
  unfold subsL subsN at hm
  obtain ⟨n, hn, hm⟩ := List.mem_flatMap.1 hm
  have := List.mem_range'.1 hn
  obtain ⟨i, hi, rfl⟩ := this
  exact masks_4096 hk (by omega) hm
def mkD (D : Nat) : Deferred := { target := .collected D, args := #[] }
theorem leaves_marks {F : Fence} {n : Nat} {P : Program} {fn : Func} {tmps : Array Value} {R : Ending → World → Prop} (hres : ∀ W, (results fn tmps).run P W = .ok (.tuple #[]) W) :
    ∀ (Ds : List Nat) (w : World), Ds.Nodup → (∀ D ∈ Ds, w.heap[D]? = some (.deferred (some []))) → (∀ W, KC w W → (∀ b, b ∉ Ds → W.heap[b]? = w.heap[b]?) → W.os = w.os → W.tape = w.tape → W.output = w.output → R (.returned (.tuple #[])) W) →
      LeavesInM F n P fn tmps R (Ds.map mkD) .returning w
  | [], w, _, _, h => ⟨_, hres w, h w ⟨Nat.le_refl _, fun _ _ h _ => h⟩ (fun _ _ => rfl) rfl rfl rfl⟩
  | D :: Ds, w, hn, hd, h => by
    obtain ⟨hn1, hn2⟩ := List.nodup_cons.1 hn
    refine ⟨by simp, .inl ⟨_, _, rfl, run_takeDeferred (hd D (by simp)), leaves_marks hres Ds _ hn2 (fun D' hD' => ?_) (fun W hk hb e1 e2 e3 => ?_)⟩⟩
    · rw [World.putObj_heap_other (by intro e; subst e; exact hn1 hD')]
      exact hd D' (by simp [hD'])
    · refine h W ((KC.putObj _ (hd D (by simp)) rfl).trans hk) (fun b hb' => ?_) e1 e2 e3
      rw [hb b (fun h => hb' (by simp [h])), World.putObj_heap_other (by intro e; subst e; exact hb' (by simp))]
def onlyN (Q : Exit → Act → World → Prop) : Exit → Act → World → Prop
  | .normal, a, w => Q .normal a w
  | _, _, _ => False
theorem onlyN.mk {Q : Exit → Act → World → Prop} {a : Act} {w : World} (h : Q .normal a w) : onlyN Q .normal a w := h
theorem wpIn_onlyN {n : Nat} {P : Program} {c : Code} {Q : Exit → Act → World → Prop} {a : Act} {w : World} (h : c.wp P (onlyN Q) a w) : c.wpIn Fence.wide n P Q a w :=
  wpIn_mono (wpIn_wide.2 h) (fun e a w hq => by cases e <;> first | exact hq | exact hq.elim)
set_option maxHeartbeats 4000000 in
theorem many28 {sw : Bool} {base B g1 g2 : Nat} {a1 : Option Addr} {c1 : Nat} {l1 : List O3} {a2 : Option Addr} {c2 : Nat} {l2 : List O3} {tol : Int} {st : FS} {gp : Nat} (w : World) (hF : FinV sw base B g1 g2 a1 c1 l1 a2 c2 l2 tol w st) (hol : st.out.length ≤ 2000)
    (eg : ∀ args w, (callFunc gp args).run Try.prog w = .ok (.enter gp args) w) (hpr : PairC sw gp) :
    Calls Try.prog 27 #[.pointer (some ⟨B, 0, none⟩), .pointer (some ⟨B, o1 sw, none⟩), .pointer (some ⟨B, o2 sw, none⟩), .func (.func gp) #[] #[]] w fun e w' =>
      e = .returned (.tuple #[]) ∧ FinV sw base B g1 g2 a1 c1 l1 a2 c2 l2 tol w' (manyAt sw l1 l2 tol st l1.length) ∧ Below base w w' := by
  refine (callsIn_wide (n := 9)).1 ?_
  refine callsIn_of_wp_marks Try.func27 rfl trivial ?_ rfl
  simp only [Try.ntmps27, List.size_toArray, List.length_cons, List.length_nil, Nat.reduceAdd, Nat.reduceSub, Array.replicate_succ, Array.replicate_zero, List.push_toArray, List.append_toArray, List.nil_append, List.cons_append]
  obtain ⟨N, hN⟩ : ∃ n, w.heap.size = n := ⟨_, rfl⟩
  obtain ⟨w0, hw0⟩ : ∃ q, (((w.alloc (.cells #[.pointer (some ⟨B, 0, none⟩)] 75)).alloc (.cells #[.pointer (some ⟨B, o1 sw, none⟩)] 82)).alloc (.cells #[.pointer (some ⟨B, o2 sw, none⟩)] 82)).alloc (.cells #[.func (.func gp) #[] #[]] 83) = q := ⟨_, rfl⟩
  have hb0 : Below w.heap.size w w0 := by
    rw [← hw0]
    exact ((((Below.refl w.heap.size w).alloc (Nat.le_refl _) _).alloc (by simp) _).alloc (by simp; omega) _).alloc (by simp; omega) _
  have k0 : w0.cell? ⟨N, 0, none⟩ = some (.pointer (some ⟨B, 0, none⟩)) := by
    rw [← hw0]; exact blk_cell (alloc_old' (alloc_old' (alloc_old' (alloc_new' hN.symm)))) 0
  have k1 : w0.cell? ⟨N + 1, 0, none⟩ = some (.pointer (some ⟨B, o1 sw, none⟩)) := by
    rw [← hw0]; exact blk_cell (alloc_old' (alloc_old' (alloc_new' (by simp; omega)))) 0
  have k2 : w0.cell? ⟨N + 2, 0, none⟩ = some (.pointer (some ⟨B, o2 sw, none⟩)) := by
    rw [← hw0]; exact blk_cell (alloc_old' (alloc_new' (by simp; omega))) 0
  have k3 : w0.cell? ⟨N + 3, 0, none⟩ = some (.func (.func gp) #[] #[]) := by
    rw [← hw0]; exact blk_cell (alloc_new' (by simp; omega)) 0
  have hs0 : w0.heap.size = N + 4 := by rw [← hw0]; simp; omega
  have HF := Lib.hid hF
  have HF0 := Lib.hid (hF.below hb0)
  have HB0 := Lib.hid hb0
  have HS0 := Lib.hid hs0
  obtain ⟨⟨q0, q1⟩, -, -⟩ := HF0.out.cs
  clear hF hb0 hs0
  gi_wp2_with fail
  simp only [show N + 1 + 1 + 1 = N + 3 from rfl, show N + 1 + 1 = N + 2 from rfl]
  have HK := Lib.hid (show Cells [(⟨N, 0, none⟩, .pointer (some ⟨B, 0, none⟩)), (⟨N + 1, 0, none⟩, .pointer (some ⟨B, o1 sw, none⟩)), (⟨N + 2, 0, none⟩, .pointer (some ⟨B, o2 sw, none⟩)), (⟨N + 3, 0, none⟩, .func (.func gp) #[] #[])] w0 from ⟨k0, k1, k2, k3, trivial⟩)
  have HNB := Lib.hid (show base ≤ N ∧ B < N ∧ g1 < N ∧ g2 < N from by rw [← hN]; exact HF.out.lt)
  have HOL := Lib.hid hol
  have HPR := Lib.hid hpr
  have hll : l1.length ≤ 60 := HF0.out.am.2.2.1
  have hrl : l2.length ≤ 60 := HF0.out.am.2.2.2.1
  have HOV := Lib.hid (show OV B N w0 from fun a l c hc b hb => by
    obtain ⟨oa, ol, oc, S, h1, h2, -⟩ := HF.out.outs
    have h3 := cell_below h1 HB0.out
    rw [h3] at hc
    cases hc
    have := (h2.own b hb).2
    omega)
  clear k0 k1 k2 k3 q0 q1 hw0 hol hpr
  refine wpIn_loop (fun a' wr => ∃ (i : Nat) (Ds : List Nat) (u8 u9 u10 u11 u12 u13 u14 u15 u16 u17 u18 u19 u26 u27 u28 u29 u30 u31 u32 u33 u34 u35 u36 u37 u38 u39 u40 u41 u42 u43 u44 u45 u46 u47 u48 u49 u50 u51 u52 u53 u54 u55 u56 u57 u58 u59 u60 u61 u62 u63 u64 u65 u66 u67 u68 u69 u70 u71 u72 u73 u74 u75 u76 u77 u78 u79 u80 u81 u82 u83 u84 u85 u86 u87 u88 u89 u90 u91 u92 u93 u94 u95 u96 u97 u98 u99 u100 u101 u102 u103 u104 u105 u106 u107 u108 u109 u110 u111 u112 u113 u114 u115 u116 u117 u118 u119 u120 u121 u122 u123 u124 u125 u126 u127 u128 u129 u130 u131 u132 u133 u134 u135 u136 u137 u138 u139 u140 u141 u142 u143 u144 u145 u146 u147 u148 u149 u150 u151 u152 u153 u154 u155 u156 u157 u158 : Value), (i ≤ l1.length ∧ Gr (fun b => (base ≤ b ∧ b < N) ∨ N + 4 ≤ b) w0 wr ∧ FinV sw base B g1 g2 a1 c1 l1 a2 c2 l2 tol wr (manyAt sw l1 l2 tol st i) ∧ OV B N wr ∧ Ds.Nodup ∧ ∀ D ∈ Ds, N + 4 ≤ D ∧ wr.heap[D]? = some (.deferred (some []))) ∧ a' = { tmps := #[.pointer (some ⟨B, 0, none⟩), .pointer (some ⟨B, o1 sw, none⟩), .pointer (some ⟨B, o2 sw, none⟩), .func (.func gp) #[] #[], .pointer (some ⟨N, 0, none⟩), .pointer (some ⟨N + 1, 0, none⟩), .pointer (some ⟨N + 2, 0, none⟩), .pointer (some ⟨N + 3, 0, none⟩), u8, u9, u10, u11, u12, u13, u14, u15, u16, u17, u18, u19, .pointer (some ⟨B, o1 sw, none⟩), .pointer (some ⟨B, o1 sw, none⟩), .pointer (some ⟨B, o1 sw, none⟩), .slice a1 l1.length c1, .int .i64 (l1.length : Int), .int .i64 (i : Int), u26, u27, u28, u29, u30, u31, u32, u33, u34, u35, u36, u37, u38, u39, u40, u41, u42, u43, u44, u45, u46, u47, u48, u49, u50, u51, u52, u53, u54, u55, u56, u57, u58, u59, u60, u61, u62, u63, u64, u65, u66, u67, u68, u69, u70, u71, u72, u73, u74, u75, u76, u77, u78, u79, u80, u81, u82, u83, u84, u85, u86, u87, u88, u89, u90, u91, u92, u93, u94, u95, u96, u97, u98, u99, u100, u101, u102, u103, u104, u105, u106, u107, u108, u109, u110, u111, u112, u113, u114, u115, u116, u117, u118, u119, u120, u121, u122, u123, u124, u125, u126, u127, u128, u129, u130, u131, u132, u133, u134, u135, u136, u137, u138, u139, u140, u141, u142, u143, u144, u145, u146, u147, u148, u149, u150, u151, u152, u153, u154, u155, u156, u157, u158], defers := Ds.map mkD }) (fun a' _ => l1.length - (intOf (a'.tmps.getD 25 undef)).toNat) ?_ ?_
  · refine ⟨0, [], ?_⟩
    (repeat apply Exists.intro)
    refine ⟨?_, rfl⟩
    exact ⟨Nat.zero_le _, Gr.refl _ _, HF0.out, HOV.out, List.nodup_nil, fun D h => by cases h⟩
  intro _ wr hinv
  obtain ⟨i, hinv⟩ := hinv
  obtain ⟨Ds, hinv⟩ := hinv
  obtain ⟨u8, hinv⟩ := hinv
  obtain ⟨u9, hinv⟩ := hinv
  obtain ⟨u10, hinv⟩ := hinv
  obtain ⟨u11, hinv⟩ := hinv
  obtain ⟨u12, hinv⟩ := hinv
  obtain ⟨u13, hinv⟩ := hinv
  obtain ⟨u14, hinv⟩ := hinv
  obtain ⟨u15, hinv⟩ := hinv
  obtain ⟨u16, hinv⟩ := hinv
  obtain ⟨u17, hinv⟩ := hinv
  obtain ⟨u18, hinv⟩ := hinv
  obtain ⟨u19, hinv⟩ := hinv
  obtain ⟨u26, hinv⟩ := hinv
  obtain ⟨u27, hinv⟩ := hinv
  obtain ⟨u28, hinv⟩ := hinv
  obtain ⟨u29, hinv⟩ := hinv
  obtain ⟨u30, hinv⟩ := hinv
  obtain ⟨u31, hinv⟩ := hinv
  obtain ⟨u32, hinv⟩ := hinv
  obtain ⟨u33, hinv⟩ := hinv
  obtain ⟨u34, hinv⟩ := hinv
  obtain ⟨u35, hinv⟩ := hinv
  obtain ⟨u36, hinv⟩ := hinv
  obtain ⟨u37, hinv⟩ := hinv
  obtain ⟨u38, hinv⟩ := hinv
  obtain ⟨u39, hinv⟩ := hinv
  obtain ⟨u40, hinv⟩ := hinv
  obtain ⟨u41, hinv⟩ := hinv
  obtain ⟨u42, hinv⟩ := hinv
  obtain ⟨u43, hinv⟩ := hinv
  obtain ⟨u44, hinv⟩ := hinv
  obtain ⟨u45, hinv⟩ := hinv
  obtain ⟨u46, hinv⟩ := hinv
  obtain ⟨u47, hinv⟩ := hinv
  obtain ⟨u48, hinv⟩ := hinv
  obtain ⟨u49, hinv⟩ := hinv
  obtain ⟨u50, hinv⟩ := hinv
  obtain ⟨u51, hinv⟩ := hinv
  obtain ⟨u52, hinv⟩ := hinv
  obtain ⟨u53, hinv⟩ := hinv
  obtain ⟨u54, hinv⟩ := hinv
  obtain ⟨u55, hinv⟩ := hinv
  obtain ⟨u56, hinv⟩ := hinv
  obtain ⟨u57, hinv⟩ := hinv
  obtain ⟨u58, hinv⟩ := hinv
  obtain ⟨u59, hinv⟩ := hinv
  obtain ⟨u60, hinv⟩ := hinv
  obtain ⟨u61, hinv⟩ := hinv
  obtain ⟨u62, hinv⟩ := hinv
  obtain ⟨u63, hinv⟩ := hinv
  obtain ⟨u64, hinv⟩ := hinv
  obtain ⟨u65, hinv⟩ := hinv
  obtain ⟨u66, hinv⟩ := hinv
  obtain ⟨u67, hinv⟩ := hinv
  obtain ⟨u68, hinv⟩ := hinv
  obtain ⟨u69, hinv⟩ := hinv
  obtain ⟨u70, hinv⟩ := hinv
  obtain ⟨u71, hinv⟩ := hinv
  obtain ⟨u72, hinv⟩ := hinv
  obtain ⟨u73, hinv⟩ := hinv
  obtain ⟨u74, hinv⟩ := hinv
  obtain ⟨u75, hinv⟩ := hinv
  obtain ⟨u76, hinv⟩ := hinv
  obtain ⟨u77, hinv⟩ := hinv
  obtain ⟨u78, hinv⟩ := hinv
  obtain ⟨u79, hinv⟩ := hinv
  obtain ⟨u80, hinv⟩ := hinv
  obtain ⟨u81, hinv⟩ := hinv
  obtain ⟨u82, hinv⟩ := hinv
  obtain ⟨u83, hinv⟩ := hinv
  obtain ⟨u84, hinv⟩ := hinv
  obtain ⟨u85, hinv⟩ := hinv
  obtain ⟨u86, hinv⟩ := hinv
  obtain ⟨u87, hinv⟩ := hinv
  obtain ⟨u88, hinv⟩ := hinv
  obtain ⟨u89, hinv⟩ := hinv
  obtain ⟨u90, hinv⟩ := hinv
  obtain ⟨u91, hinv⟩ := hinv
  obtain ⟨u92, hinv⟩ := hinv
  obtain ⟨u93, hinv⟩ := hinv
  obtain ⟨u94, hinv⟩ := hinv
  obtain ⟨u95, hinv⟩ := hinv
  obtain ⟨u96, hinv⟩ := hinv
  obtain ⟨u97, hinv⟩ := hinv
  obtain ⟨u98, hinv⟩ := hinv
  obtain ⟨u99, hinv⟩ := hinv
  obtain ⟨u100, hinv⟩ := hinv
  obtain ⟨u101, hinv⟩ := hinv
  obtain ⟨u102, hinv⟩ := hinv
  obtain ⟨u103, hinv⟩ := hinv
  obtain ⟨u104, hinv⟩ := hinv
  obtain ⟨u105, hinv⟩ := hinv
  obtain ⟨u106, hinv⟩ := hinv
  obtain ⟨u107, hinv⟩ := hinv
  obtain ⟨u108, hinv⟩ := hinv
  obtain ⟨u109, hinv⟩ := hinv
  obtain ⟨u110, hinv⟩ := hinv
  obtain ⟨u111, hinv⟩ := hinv
  obtain ⟨u112, hinv⟩ := hinv
  obtain ⟨u113, hinv⟩ := hinv
  obtain ⟨u114, hinv⟩ := hinv
  obtain ⟨u115, hinv⟩ := hinv
  obtain ⟨u116, hinv⟩ := hinv
  obtain ⟨u117, hinv⟩ := hinv
  obtain ⟨u118, hinv⟩ := hinv
  obtain ⟨u119, hinv⟩ := hinv
  obtain ⟨u120, hinv⟩ := hinv
  obtain ⟨u121, hinv⟩ := hinv
  obtain ⟨u122, hinv⟩ := hinv
  obtain ⟨u123, hinv⟩ := hinv
  obtain ⟨u124, hinv⟩ := hinv
  obtain ⟨u125, hinv⟩ := hinv
  obtain ⟨u126, hinv⟩ := hinv
  obtain ⟨u127, hinv⟩ := hinv
  obtain ⟨u128, hinv⟩ := hinv
  obtain ⟨u129, hinv⟩ := hinv
  obtain ⟨u130, hinv⟩ := hinv
  obtain ⟨u131, hinv⟩ := hinv
  obtain ⟨u132, hinv⟩ := hinv
  obtain ⟨u133, hinv⟩ := hinv
  obtain ⟨u134, hinv⟩ := hinv
  obtain ⟨u135, hinv⟩ := hinv
  obtain ⟨u136, hinv⟩ := hinv
  obtain ⟨u137, hinv⟩ := hinv
  obtain ⟨u138, hinv⟩ := hinv
  obtain ⟨u139, hinv⟩ := hinv
  obtain ⟨u140, hinv⟩ := hinv
  obtain ⟨u141, hinv⟩ := hinv
  obtain ⟨u142, hinv⟩ := hinv
  obtain ⟨u143, hinv⟩ := hinv
  obtain ⟨u144, hinv⟩ := hinv
  obtain ⟨u145, hinv⟩ := hinv
  obtain ⟨u146, hinv⟩ := hinv
  obtain ⟨u147, hinv⟩ := hinv
  obtain ⟨u148, hinv⟩ := hinv
  obtain ⟨u149, hinv⟩ := hinv
  obtain ⟨u150, hinv⟩ := hinv
  obtain ⟨u151, hinv⟩ := hinv
  obtain ⟨u152, hinv⟩ := hinv
  obtain ⟨u153, hinv⟩ := hinv
  obtain ⟨u154, hinv⟩ := hinv
  obtain ⟨u155, hinv⟩ := hinv
  obtain ⟨u156, hinv⟩ := hinv
  obtain ⟨u157, hinv⟩ := hinv
  obtain ⟨u158, hinv⟩ := hinv
  obtain ⟨⟨hi, hG, hFv, hOV, hNd, hDs⟩, ha⟩ := hinv
  subst ha
  try dsimp only
  have HG := Lib.hid hG
  have HFV := Lib.hid hFv
  have HOVr := Lib.hid hOV
  have HND := Lib.hid hNd
  have HDS := Lib.hid hDs
  clear hG hFv hOV hNd hDs
  by_cases hil : i < l1.length
  · have hiI : (i : Int) < (l1.length : Int) := by omega
    obtain ⟨xb, xo, rfl, -, m0, m1, m2, hxo⟩ := open_at HFV.out.rds.1 i hil
    rw [lat_get hil] at m0 m1 m2 hxo
    have hxa := HFV.out.am.1 l1[i] (List.getElem_mem hil)
    rw [lat_get hil] at hxa
    obtain ⟨x, hx⟩ : ∃ x, lat l1 i = x := ⟨_, rfl⟩
    rw [hx] at m0 m1 m2 hxo hxa
    have HX := Lib.hid hx
    have HIL := Lib.hid hil
    have HXO := Lib.hid hxo
    obtain ⟨⟨xe, xl⟩, xn⟩ := x
    have HXA := Lib.hid hxa
    simp only at m0 m1 m2
    clear hx hil hi hxo hxa
    have hBa : Below wr.heap.size wr ((wr.alloc (.cells #[.int .i64 (i : Int)] 3)).alloc (.cells #[.int .i64 xe, .int .i64 xl, .int .i64 xn] 48)) := ((Below.refl wr.heap.size wr).alloc (Nat.le_refl _) _).alloc (by simp) _
    have hqi : ((wr.alloc (.cells #[.int .i64 (i : Int)] 3)).alloc (.cells #[.int .i64 xe, .int .i64 xl, .int .i64 xn] 48)).heap[wr.heap.size]? = some (.cells #[.int .i64 (i : Int)] 3 (0, 0)) := alloc_old' (alloc_new' rfl)
    have hqx : ((wr.alloc (.cells #[.int .i64 (i : Int)] 3)).alloc (.cells #[.int .i64 xe, .int .i64 xl, .int .i64 xn] 48)).heap[wr.heap.size + 1]? = some (.cells #[.int .i64 xe, .int .i64 xl, .int .i64 xn] 48 (0, 0)) := alloc_new' (by simp)
    have hkk := HK.out
    obtain ⟨k0, k1, k2, k3, -⟩ := hkk
    have hkr : Cells [(⟨N, 0, none⟩, .pointer (some ⟨B, 0, none⟩)), (⟨N + 1, 0, none⟩, .pointer (some ⟨B, o1 sw, none⟩)), (⟨N + 2, 0, none⟩, .pointer (some ⟨B, o2 sw, none⟩)), (⟨N + 3, 0, none⟩, .func (.func gp) #[] #[])] wr := ⟨HG.out.cell k0 (by simp only; omega), HG.out.cell k1 (by simp only; omega), HG.out.cell k2 (by simp only; omega), HG.out.cell k3 (by simp only; omega), trivial⟩
    have HKX := Lib.hid (hkr.below hBa)
    have HQI := Lib.hid hqi
    have HQX := Lib.hid hqx
    have HBA := Lib.hid hBa
    have HNR := Lib.hid (show N + 4 ≤ wr.heap.size from by rw [← HS0.out]; exact HG.out.size)
    clear hqi hqx hBa k0 k1 k2 k3 hkr
    gi_wp2_with fail
    obtain ⟨so, hso⟩ : ∃ s, manyAt sw l1 l2 tol st i = s := ⟨_, rfl⟩
    have HSO := Lib.hid hso
    have HFX := Lib.hid (show FinV sw base B g1 g2 (some ⟨xb, xo, none⟩) c1 l1 a2 c2 l2 tol _ so from hso ▸ HFV.out.below HBA.out)
    have HOS := Lib.hid (show so.out.length ≤ 2060 from by rw [← hso]; have := manyAt_len sw l1 l2 tol st i; have := HOL.out; have := HIL.out; omega)
    have HOX := Lib.hid (show OV B N _ from HOVr.out.of_cell (HBA.out.block _ HFV.out.lt.2.1))
    have HGX := Lib.hid (show Gr (fun b => (base ≤ b ∧ b < N) ∨ N + 4 ≤ b) w0 _ from HG.out.step HBA.out)
    have HDX := Lib.hid (show ∀ D ∈ Ds, D < wr.heap.size ∧ N + 4 ≤ D ∧ _ = some (Obj.deferred (some [])) from fun D hD => ⟨blk_lt (HDS.out D hD).2, (HDS.out D hD).1, (HBA.out.block _ (blk_lt (HDS.out D hD).2)).trans (HDS.out D hD).2⟩)
    clear hso m0 m1 m2
    generalize hwx : (wr.alloc (.cells #[.int .i64 (i : Int)] 3)).alloc (.cells #[.int .i64 xe, .int .i64 xl, .int .i64 xn] 48) = wx at *
    clear hwx
    clear HG HFV HOVr HDS HBA
    generalize wr.heap.size = bi at *
    have hu := bRow_at HFX.out.left.1 (k := i) (by rw [HFX.out.left.2]; exact HIL.out)
    obtain ⟨⟨q0, q1⟩, -⟩ := HFX.out.cs
    have k1 := HKX.out.2.1
    have ki := blk_cell HQI.out 0
    simp only [List.getElem?_toArray, List.getElem?_cons_zero] at ki
    obtain ⟨ub, hub⟩ : ∃ u, uat so.ul i = u := ⟨_, rfl⟩
    rw [hub] at hu
    have HUB := Lib.hid hub
    have hC0 : Cells [(⟨N + 1, 0, none⟩, .pointer (some ⟨B, o1 sw, none⟩)), (⟨B, o1 sw + 1, none⟩, .slice (some ⟨g1, 0, none⟩) l1.length l1.length), (⟨bi, 0, none⟩, .int .i64 (i : Int)), (⟨g1, i, none⟩, .bool ub)] wx := ⟨k1, q1, ki, hu, trivial⟩
    clear hu q0 q1 k1 ki hub
    refine wpIn_onlyN ?_
    refine wp_region_T (Cells [(⟨N + 1, 0, none⟩, .pointer (some ⟨B, o1 sw, none⟩)), (⟨B, o1 sw + 1, none⟩, .slice (some ⟨g1, 0, none⟩) l1.length l1.length), (⟨bi, 0, none⟩, .int .i64 (i : Int)), (⟨g1, i, none⟩, .bool ub)]) (fun _ => false) (by kernel_rfl) ?_
    have hSss1 := Cells.drew hC0
    have hB_0_s1 : Below wx.heap.size wx wx.drew := below_drew _
    generalize wx.drew = s1 at hSss1 hB_0_s1 ⊢
    have hB_s1_s1 := Below.refl s1.heap.size s1
    refine wpAnyT_loadW (i := 0) (v := ?_) rfl (by kernel_rfl) (by kernel_rfl) (by kernel_rfl) (by kernel_rfl) (by kernel_rfl) (fun _ _ _ h => h) (Or.inl ⟨by rfl, ?_⟩) hSss1 ?_
    rotate_left
    · intro w hSw; obtain ⟨e0, e1, e2, e3, -⟩ := hSw; go_simp; try with_reducible rfl
    simp only [Act.put, rgA, rgB, rgC, rgD, rgE, rgF]
    refine wpAnyT_pure (i := 1) (v := ?_) rfl (by kernel_rfl) (by kernel_rfl) (by kernel_rfl) (fun _ _ _ h => h) (by rfl) ?_ ?_
    rotate_left
    · intro w; go_simp; try with_reducible rfl
    simp only [Act.put, rgA, rgB, rgC, rgD, rgE, rgF]
    refine wpAnyT_pure (i := 2) (v := ?_) rfl (by kernel_rfl) (by kernel_rfl) (by kernel_rfl) (fun _ _ _ h => h) (by rfl) ?_ ?_
    rotate_left
    · intro w; go_simp; try with_reducible rfl
    simp only [Act.put, rgA, rgB, rgC, rgD, rgE, rgF]
    refine wpAnyT_loadW (i := 3) (v := ?_) rfl (by kernel_rfl) (by kernel_rfl) (by kernel_rfl) (by kernel_rfl) (by kernel_rfl) (fun _ _ _ h => h) (Or.inl ⟨by rfl, ?_⟩) hSss1 ?_
    rotate_left
    · intro w hSw; obtain ⟨e0, e1, e2, e3, -⟩ := hSw; go_simp; try with_reducible rfl
    simp only [Act.put, rgA, rgB, rgC, rgD, rgE, rgF]
    refine wpAnyT_loadW (i := 4) (v := ?_) rfl (by kernel_rfl) (by kernel_rfl) (by kernel_rfl) (by kernel_rfl) (by kernel_rfl) (fun _ _ _ h => h) (Or.inl ⟨by rfl, ?_⟩) hSss1 ?_
    rotate_left
    · intro w hSw; obtain ⟨e0, e1, e2, e3, -⟩ := hSw; go_simp; try with_reducible rfl
    simp only [Act.put, rgA, rgB, rgC, rgD, rgE, rgF]
    refine wpAnyT_pure (i := 5) (v := ?_) rfl (by kernel_rfl) (by kernel_rfl) (by kernel_rfl) (fun _ _ _ h => h) (by rfl) ?_ ?_
    rotate_left
    · intro w; go_simp; try with_reducible rfl
    simp only [Act.put, rgA, rgB, rgC, rgD, rgE, rgF]
    refine wpAnyT_loadW (i := 6) (v := ?_) rfl (by kernel_rfl) (by kernel_rfl) (by kernel_rfl) (by kernel_rfl) (by kernel_rfl) (fun _ _ _ h => h) (Or.inl ⟨by rfl, ?_⟩) hSss1 ?_
    rotate_left
    · intro w hSw; obtain ⟨e0, e1, e2, e3, -⟩ := hSw; go_simp; try with_reducible rfl
    simp only [Act.put, rgA, rgB, rgC, rgD, rgE, rgF]
    refine wpAnyT_done (by kernel_rfl) ?_ _
    obtain ⟨wy, rfl⟩ : ∃ q, q = s1 := ⟨_, rfl⟩
    refine onlyN.mk ?_
    have HKY := Lib.hid (HKX.out.below hB_0_s1)
    have HQI := Lib.hid ((hB_0_s1.block _ (blk_lt HQI.out)).trans HQI.out)
    have HQX := Lib.hid ((hB_0_s1.block _ (blk_lt HQX.out)).trans HQX.out)
    have HFY := Lib.hid (HFX.out.below hB_0_s1)
    have HOY := Lib.hid (HOX.out.of_cell (hB_0_s1.block _ HFX.out.lt.2.1))
    have HGY := Lib.hid (HGX.out.step hB_0_s1)
    have HDY := Lib.hid (show ∀ D ∈ Ds, D < bi ∧ N + 4 ≤ D ∧ wy.heap[D]? = some (Obj.deferred (some [])) from fun D hD => ⟨(HDX.out D hD).1, (HDX.out D hD).2.1, (hB_0_s1.block _ (blk_lt (HDX.out D hD).2.2)).trans (HDX.out D hD).2.2⟩)
    clear hSss1 hB_0_s1 hB_s1_s1 hC0 HKX HFX HOX HGX HDX
    cases ub with
    | true =>
      gi_wp2_with fail
      have hci : ((i : Int) + 1) = ((i + 1 : Nat) : Int) := by omega
      rw [hci]
      refine ⟨⟨i + 1, Ds, ?_⟩, ?_⟩
      · (repeat apply Exists.intro)
        refine ⟨?_, rfl⟩
        exact ⟨HIL.out, HGY.out, by rw [manyAt_succ, HSO.out]; unfold manyStep; rw [HUB.out, if_pos rfl]; exact HFY.out, HOY.out, HND.out, fun D hD => (HDY.out D hD).2⟩
      · have := HIL.out
        show l1.length - (intOf (.int .i64 ((i + 1 : Nat) : Int))).toNat < l1.length - (intOf (.int .i64 (i : Int))).toNat
        simp only [intOf]; omega
    | false =>
      have hcs0 := HKY.out
      obtain ⟨-, -, k2, -, -⟩ := hcs0
      have hBc := (Below.refl wy.heap.size wy).alloc (Nat.le_refl _) (.cells #[.slice none 0 0] 99)
      have hqc := heap_alloc_new wy (.cells #[.slice none 0 0] 99)
      obtain ⟨-, ⟨q2, q3⟩, q4⟩ := HFY.out.cs
      have q2 := cell_below q2 hBc
      have k2 := cell_below k2 hBc
      have HBC := Lib.hid hBc
      have HQC := Lib.hid hqc
      clear hBc hqc q3 q4
      gi_wp2_with fail
      clear q2 k2
      generalize hwz : wy.alloc (.cells #[.slice none 0 0] 99) = wz at *
      clear hwz
      obtain ⟨bc, hbc⟩ : ∃ b, wy.heap.size = b := ⟨_, rfl⟩
      rw [hbc] at HBC HQC
      simp only [hbc]
      have HBCE := Lib.hid hbc
      have HNW := Lib.hid (show bi < bc ∧ bi + 1 < bc ∧ N + 4 ≤ bc from by have h1 := blk_lt HQI.out; have h2 := blk_lt HQX.out; have h3 := HNR.out; omega)
      clear hbc
      gi_loopw [42] (fun iv wr => ∃ (k : Nat) (av : Option Addr) (lv cv : Nat), k ≤ l2.length ∧ iv = .int .i64 (k : Int) ∧ lv = (candA xn l2 so.ur k).length ∧ wr.heap[bc]? = some (.cells #[.slice av lv cv] 99 (0, 0)) ∧ Owns (.int .i64) 3 (bc + 1) (fun _ => False) wr (.slice av lv cv) ((candA xn l2 so.ur k).map fun n : Nat => (n : Int)) ∧ Below bc wy wr) (fun iv _ => l2.length - (intOf iv).toNat)
      case atStart => exact ⟨0, none, 0, 0, Nat.zero_le _, rfl, rfl, HQC.out, Owns.nil _ _ _ _, HBC.out⟩
      case round =>
        obtain ⟨k, av, lv, cv, hk, rfl, hlv, hqc, hO, hB⟩ := hrel
        have hBy : Below wy.heap.size wy wr := by rw [HBCE.out]; exact hB
        have HB := Lib.hid hB
        have HO := Lib.hid hO
        have HLV := Lib.hid hlv
        have hl12 : lv ≤ 12 := by rw [hlv]; exact candA_len _ _ _ _
        have hFr := HFY.out.below hBy
        have hKr := HKY.out.below hBy
        have hQxr := (hBy.block _ (blk_lt HQX.out)).trans HQX.out
        by_cases hkr : k < l2.length
        · have hkI : (k : Int) < (l2.length : Int) := by omega
          obtain ⟨yb, yo, rfl, -, n0, n1, n2, hyo⟩ := open_at hFr.rds.2 k hkr
          rw [lat_get hkr] at n0 n1 n2 hyo
          obtain ⟨y, hy⟩ : ∃ y, lat l2 k = y := ⟨_, rfl⟩
          rw [hy] at n0 n1 n2 hyo
          have HY := Lib.hid hy
          have HKR := Lib.hid hkr
          obtain ⟨⟨ye, yl⟩, yn⟩ := y
          simp only at n0 n1 n2
          have hBb := (Below.refl wr.heap.size wr).alloc (Nat.le_refl _) (.cells #[.int .i64 ye, .int .i64 yl, .int .i64 yn] 48)
          have hqb := heap_alloc_new wr (.cells #[.int .i64 ye, .int .i64 yl, .int .i64 yn] 48)
          have hy5 := blk_cell hqb 2
          have hFb := hFr.below hBb
          obtain ⟨-, -, k2, -, -⟩ := hKr.below hBb
          obtain ⟨-, ⟨-, q3⟩, -⟩ := hFb.cs
          have hqc2 := (hBb.block _ (blk_lt hqc)).trans hqc
          have c0 := blk_cell hqc2 0
          have x2 := blk_cell ((hBb.block _ (blk_lt hQxr)).trans hQxr) 2
          simp only [List.getElem?_toArray, List.getElem?_cons_zero, List.getElem?_cons_succ] at hy5 c0 x2
          have hu := bRow_at hFb.right.1 (k := k) (by rw [hFb.right.2]; exact hkr)
          obtain ⟨uk, huk⟩ : ∃ u, uat so.ur k = u := ⟨_, rfl⟩
          rw [huk] at hu
          have HUK := Lib.hid huk
          have HBB := Lib.hid (show Below bc wy (wr.alloc (.cells #[.int .i64 ye, .int .i64 yl, .int .i64 yn] 48)) from hB.alloc (by rw [← HBCE.out]; exact hBy.size) _)
          have HOB := Lib.hid (hO.alloc (.cells #[.int .i64 ye, .int .i64 yl, .int .i64 yn] 48))
          have HQB := Lib.hid hqc2
          have HSZ := Lib.hid (blk_lt hqc)
          clear hqc hO hB hBy hFr hKr hQxr hkr hk hyo hy hBb hqb hFb hqc2 huk hlv
          cases uk with
          | true =>
            have HCA := Lib.hid (show candA xn l2 so.ur (k + 1) = candA xn l2 so.ur k from candA_no (by rw [HUK.out]; rfl))
            gi_wp2_with (refine And.intro (a := Fence.wide.fn 41) trivial ?_)
            refine ⟨⟨k + 1, av, lv, cv, HKR.out, by simp, by rw [HCA.out]; exact HLV.out, HQB.out, by rw [HCA.out]; exact HOB.out, HBB.out⟩, ?_⟩
            have := HKR.out; simp only [intOf]; omega
          | false =>
            cases hop : oppB xn yn with
            | false =>
              have HOP := Lib.hid hop
              have HCA := Lib.hid (show candA xn l2 so.ur (k + 1) = candA xn l2 so.ur k from candA_no (by rw [HUK.out, HY.out, hop]; rfl))
              clear hop
              gi_wp2_with (refine And.intro (a := Fence.wide.fn _) trivial ?_; gi_at_call 41; go_must (refine (callsIn_wide.2 (opposite28 _ _ _)).mono ?_); rintro e w9 ⟨rfl, hw9⟩; rw [hw9, HOP.out]; clear hw9)
              refine ⟨⟨k + 1, av, lv, cv, HKR.out, by simp, by rw [HCA.out]; exact HLV.out, HQB.out, by rw [HCA.out]; exact HOB.out, HBB.out⟩, ?_⟩
              have := HKR.out; simp only [intOf]; omega
            | true =>
              have HOP := Lib.hid hop
              have hyes : (!uat so.ur k && oppB xn (lat l2 k).n) = true := by rw [HUK.out, HY.out, hop]; rfl
              clear hop
              by_cases h12 : lv < 12
              case neg =>
                have HCA := Lib.hid (show candA xn l2 so.ur (k + 1) = candA xn l2 so.ur k from candA_full (by rw [← HLV.out]; exact h12))
                have h12I : ¬ (lv : Int) < 12 := by omega
                clear hyes
                gi_wp2_with (refine And.intro (a := Fence.wide.fn _) trivial ?_; gi_at_call 41; go_must (refine (callsIn_wide.2 (opposite28 _ _ _)).mono ?_); rintro e w9 ⟨rfl, hw9⟩; rw [hw9, HOP.out]; clear hw9)
                refine ⟨⟨k + 1, av, lv, cv, HKR.out, by simp, by rw [HCA.out]; exact HLV.out, HQB.out, by rw [HCA.out]; exact HOB.out, HBB.out⟩, ?_⟩
                have := HKR.out; simp only [intOf]; omega
              have HCA := Lib.hid (show candA xn l2 so.ur (k + 1) = candA xn l2 so.ur k ++ [k] from candA_add hyes (by rw [← HLV.out]; exact h12))
              have h12I : (lv : Int) < 12 := by omega
              clear hyes
              gi_wp2_with (first | (refine And.intro (a := Fence.wide.fn _) trivial ?_; gi_at_call 41; go_must (refine (callsIn_wide.2 (opposite28 _ _ _)).mono ?_); rintro e w9 ⟨rfl, hw9⟩; rw [hw9, HOP.out]; clear hw9) | (gi_at_builtin; have hq := HOB; clear hq; go_must (refine wpListIn_app _ rfl _ _ 99 rfl (e := .int .i64) (te := 3) info_int Try.underlying99 rfl (by decide) (v := .slice av lv cv) rfl (Owns.alloc HOB.out _) (by have := HSZ.out; simp only [World.size_alloc]; omega) rfl (ys := [(k : Int)]) (Src.of_cells (b := wr.heap.size + 1) (off := 0) (news := [.int .i64 (k : Int)]) (fun j u hu => by rw [Nat.zero_add, blk_cell (alloc_new' (by simp))]; simpa using hu)) (RdL.int1 (wf_i64 (by omega) (by omega))) (by have := HLV.out; simp only [List.length_map, List.length_cons, List.length_nil]; omega) (by have := HLV.out; simp only [List.length_map, List.length_cons, List.length_nil]; omega) ?_); intro v' w1 O1 g1' _ hob; obtain ⟨av', lv', cv', rfl, hlv', -⟩ := O1.slice; have HO1 := Lib.hid O1; have HLV1 := Lib.hid hlv'; have HG1 := Lib.hid g1'; have hq1 := blk_gr (Gr.of_grown g1') (alloc_old' (y := .cells #[.int .i64 (k : Int)] 3) HQB.out) (fun e => by have := (HOB.out.own _ e).1; omega); have HQ1 := Lib.hid hq1; have c1 := blk_cell hq1 0; have f1 := blk_frozen hq1 0; clear O1 g1' hob hq1 hlv' c0))
              have hgs : Gr (fun x => x = bc) w1 (w1.setCell ⟨bc, 0, none⟩ (.slice av' lv' cv')) := Gr.setCell (Gr.refl _ _) (by exact .inl rfl) _
              have hb1 : Below bc wy w1 := (HBB.out.alloc (by have := HSZ.out; simp only [World.size_alloc]; omega) (.cells #[.int .i64 (k : Int)] 3)).grown HG1.out (by have := HSZ.out; simp only [World.size_alloc]; omega) (fun c hc => by have := (HOB.out.own c hc).1; omega)
              refine ⟨⟨k + 1, av', lv', cv', HKR.out, by simp, by rw [HLV1.out, HCA.out]; simp, blk_set HQ1.out _, ?_, hb1.setCell (p := ⟨bc, 0, none⟩) (Nat.le_refl _) _⟩, ?_⟩
              · rw [HCA.out, List.map_append]
                exact HO1.out.gr hgs (fun _ h => h.elim) (fun b hb e => by have := (HO1.out.own b hb).1; omega)
              · have := HKR.out; simp only [intOf]; omega
        · obtain rfl : k = l2.length := by omega
          have hkI : ¬ ((l2.length : Nat) : Int) < (l2.length : Int) := by omega
          have HO := Lib.hid hO
          obtain ⟨cs, hcs⟩ : ∃ c, candA xn l2 so.ur l2.length = c := ⟨_, rfl⟩
          rw [hcs] at hO hlv
          have HCS := Lib.hid hcs
          subst hlv
          have hcl : cs.length ≤ 12 := hl12
          have c0 := blk_cell hqc 0
          simp only [List.getElem?_toArray, List.getElem?_cons_zero] at c0
          have hMC : MC sw base B g1 g2 (some ⟨xb, xo, none⟩) c1 l1 a2 c2 l2 tol gp N bi (bi + 1) bc i xe xl xn av cv cs wr so := by
            refine ⟨hFr, ?_, ?_, ?_, ?_, HOY.out.of_cell (hBy.block _ HFY.out.lt.2.1)⟩
            · obtain ⟨k0, k1, k2, k3, -⟩ := hKr
              have hQir := (hBy.block _ (blk_lt HQI.out)).trans HQI.out
              exact ⟨k0, k1, k2, k3, blk_cell hQir 0, blk_cell hQxr 0, blk_cell hQxr 1, blk_cell hQxr 2, c0, trivial⟩
            · intro j hj
              obtain ⟨g, h1, h2, h3, h4⟩ := owns_int hO j hj
              exact ⟨g, h1, by have := HNW.out; omega, h3, h4⟩
            · have := HNB.out; have := HNW.out; have := HNR.out; exact ⟨by omega, by omega, by omega, by omega, by omega, by omega, by omega⟩
            · exact ⟨hcl, fun q hq => by rw [← hcs] at hq; exact candA_lt hq⟩
          have HMC := Lib.hid hMC
          have HBY := Lib.hid hBy
          clear hkr hk hMC hFr hKr hQxr hqc hBy hB hO hcs
          gi_wp2_with (refine And.intro (a := Fence.wide.fn _) trivial ?_; gi_at_call 42; go_must (refine (callsIn_wide.2 (subs42 _ _)).mono ?_); rintro e w9 ⟨rfl, hw9⟩; have HW9 := Lib.hid hw9; clear hw9)
          have hbq : Below wr.heap.size wr w9 := by rw [HW9.out]; exact (Below.refl _ _).alloc (Nat.le_refl _) _
          have hcq : w9.cell? ⟨wr.heap.size, 0, none⟩ = some (.int .i64 (cs.length : Int)) := by rw [HW9.out]; exact blk_cell (alloc_new' rfl) 0
          have HMQ := Lib.hid (HMC.out.below hbq)
          have HBQ := Lib.hid (show Below wy.heap.size wy w9 from HBY.out.trans (hbq.mono HBY.out.size))
          have HIT := Lib.hid (subs28 w9 wr.heap.size cs.length hcl hcq)
          have hltq := HMQ.out.fin.lt
          have HGQ := Lib.hid (show Gr (fun b => (base ≤ b ∧ b < N) ∨ N + 4 ≤ b) w0 w9 from HGY.out.step HBQ.out)
          have HDQ := Lib.hid (show ∀ D ∈ Ds, D < w9.heap.size ∧ N + 4 ≤ D ∧ w9.heap[D]? = some (Obj.deferred (some [])) from fun D hD => ⟨by have h1 := blk_lt (HDY.out D hD).2.2; have h2 := HBQ.out.size; omega, (HDY.out D hD).2.1, (HBQ.out.block _ (blk_lt (HDY.out D hD).2.2)).trans (HDY.out D hD).2.2⟩)
          have HNQ := Lib.hid (show N + 4 ≤ w9.heap.size from by have h2 := HBQ.out.size; have := HNW.out; have h1 := HBCE.out; omega)
          clear hbq hcq c0
          generalize hT : List.toArray (Value.pointer (some ⟨B, 0, none⟩) :: _) = T
          refine wpIn_rangeL (n := 9) (w0 := w9) (gf := 50) (lb := #[.pointer (some ⟨wr.heap.size, 0, none⟩)]) (encs := encN) (L := subsL cs.length) (by omega) (by subst hT; rfl) (enters_of Try.func50 (by kernel_rfl) rfl) HIT.out (Below.refl _ _) (fun x => rfl) (IM xn l2 cs tol w9) (IX sw base B g1 g2 (some ⟨xb, xo, none⟩) c1 l1 a2 c2 l2 tol N xe xl xn cs i so w9) ?hI ?hIx ⟨Below.refl _ _, fun y hy => by cases hy⟩
            (fun m => { tmps := (T.setIfInBounds 75 (.int .u64 (m : Int))).setIfInBounds 13 (.int .u64 (m : Int)), defers := [] }) ?assign ?body ?done ?stop
          case hI => exact fun s W W' h hG => ⟨h.1.trans (hG.below (fun b e => e) h.1.size), h.2⟩
          case hIx =>
            rintro id s W l o o' ⟨rfl, ⟨pre, m, rfl, h1, h2, h3⟩, h4, h5, h6⟩ hl ho hc
            refine ⟨rfl, ⟨pre, m, rfl, h1, h2, h3.kc (KC.putObj o' ho hc) (fun b hb => World.putObj_heap_other (by omega))⟩, h4.trans (gr_putObj (F := fun b => b = l) W l o' rfl) (fun x e => .inr (by rw [e]; exact hl)), fun b q hb hq => ?_, h6.of_cell (World.putObj_heap_other (by omega))⟩
            rw [World.putObj_heap_other (by have := (Array.getElem?_eq_some_iff.1 hb).1; omega)]
            exact h5 b q hb hq
          case assign =>
            intro l x W K hK
            subst hT
            simp only [List.setIfInBounds_toArray, List.set_cons_zero, List.set_cons_succ] at hK
            simp only [encN]
            gi_wp2
            exact hK
          case body =>
            intro l pre x rest W hL hl hI2
            subst hT
            simp only [List.setIfInBounds_toArray, List.set_cons_zero, List.set_cons_succ]
            exact many_body w9 HMQ.out l (9 - 1 - 1) pre x W (subsL_lt hcl (by rw [hL]; simp)) hI2 HXA.out HIL.out HXO.out.1 (by have := HOS.out; omega) eg HPR.out
          case done =>
            intro D W hD hI hk
            subst hT
            have HKD := Lib.hid hk
            have HDD := Lib.hid hD
            have HFD := Lib.hid (HMQ.out.fin.below hI.1)
            have HOD := Lib.hid (HMQ.out.ov.of_cell (hI.1.block _ hltq.2.1))
            have HGD := Lib.hid (HGQ.out.step hI.1)
            have HD2 := Lib.hid (show ∀ D' ∈ Ds, D' ≠ D ∧ N + 4 ≤ D' ∧ W.heap[D']? = some (Obj.deferred (some [])) from fun D' h => ⟨by have := (HDQ.out D' h).1; omega, (HDQ.out D' h).2.1, (hI.1.block _ (HDQ.out D' h).1).trans (HDQ.out D' h).2.2⟩)
            have HMS := Lib.hid (show manyStep sw l1 l2 tol so i = so from by
              unfold manyStep
              rw [HUB.out, HX.out]
              simp only [Bool.false_eq_true, if_false, HCS.out]
              rw [show manyPick xn l2 cs tol = none from List.find?_eq_none.2 (fun y hy => by rw [hI.2 y hy]; decide)])
            clear hk hD hI
            gi_wp2_with fail
            have hci : ((i : Int) + 1) = ((i + 1 : Nat) : Int) := by omega
            rw [hci]
            refine ⟨⟨i + 1, D :: Ds, ?_⟩, ?_⟩
            · (repeat apply Exists.intro)
              refine ⟨?_, rfl⟩
              exact ⟨HIL.out, HGD.out, by rw [manyAt_succ, HSO.out, HMS.out]; exact HFD.out, HOD.out, List.nodup_cons.2 ⟨fun h => (HD2.out D h).1 rfl, HND.out⟩, fun D' hD' => (List.mem_cons.1 hD').elim (fun e => by rw [e]; exact ⟨Nat.le_trans HNQ.out HDD.out, HKD.out⟩) (fun h => (HD2.out D' h).2)⟩
            · have := HIL.out
              show l1.length - (intOf (.int .i64 ((i + 1 : Nat) : Int))).toNat < l1.length - (intOf (.int .i64 (i : Int))).toNat
              simp only [intOf]; omega
          case stop =>
            rintro D id pre x rest W hD hL ⟨rfl, ⟨pre', m, hms, h1, h2, h3⟩, h4, h5, h6⟩ hk
            obtain ⟨rfl, hxm⟩ := List.append_inj' hms rfl
            have hxm : x = m := by simpa using hxm
            subst hxm
            subst hT
            have HKD := Lib.hid hk
            have HDD := Lib.hid hD
            have HFD := Lib.hid h3
            have HOD := Lib.hid h6
            have HGD := Lib.hid (show Gr (fun b => (base ≤ b ∧ b < N) ∨ N + 4 ≤ b) w0 W from HGQ.out.trans h4 (fun _ e => .inl e))
            have HD2 := Lib.hid (show ∀ D' ∈ Ds, D' ≠ D ∧ N + 4 ≤ D' ∧ W.heap[D']? = some (Obj.deferred (some [])) from fun D' h => ⟨by have := (HDQ.out D' h).1; omega, (HDQ.out D' h).2.1, h5 _ _ (HDQ.out D' h).2.2 rfl⟩)
            have HMS := Lib.hid (show manyStep sw l1 l2 tol so i = ⟨so.ul.set i true, setAll so.ur (bitsL cs x), so.out ++ [prP sw ⟨xe, xl⟩ (refsM l2 (bitsL cs x))]⟩ from by
              unfold manyStep
              rw [HUB.out, HX.out]
              simp only [Bool.false_eq_true, if_false, HCS.out]
              rw [show manyPick xn l2 cs tol = some x from by unfold manyPick; rw [hL]; exact find_split (fun y hy => by rw [h1 y hy]; rfl) (by rw [h2]; rfl)])
            clear hk hD h1 h2 h3 h4 h5 h6 hL hms
            gi_wp2_with fail
            have hci : ((i : Int) + 1) = ((i + 1 : Nat) : Int) := by omega
            rw [hci]
            refine ⟨⟨i + 1, D :: Ds, ?_⟩, ?_⟩
            · (repeat apply Exists.intro)
              refine ⟨?_, rfl⟩
              exact ⟨HIL.out, HGD.out, by rw [manyAt_succ, HSO.out, HMS.out]; exact HFD.out, HOD.out, List.nodup_cons.2 ⟨fun h => (HD2.out D h).1 rfl, HND.out⟩, fun D' hD' => (List.mem_cons.1 hD').elim (fun e => by rw [e]; exact ⟨Nat.le_trans HNQ.out HDD.out, HKD.out⟩) (fun h => (HD2.out D' h).2)⟩
            · have := HIL.out
              show l1.length - (intOf (.int .i64 ((i + 1 : Nat) : Int))).toNat < l1.length - (intOf (.int .i64 (i : Int))).toNat
              simp only [intOf]; omega
  · obtain rfl : i = l1.length := by omega
    have hi0 : ¬ ((l1.length : Nat) : Int) < (l1.length : Int) := by omega
    clear hil hi
    gi_wp2_with fail
    refine leaves_marks (fn := Try.f27) (fun _ => results_none rfl _ _ _) Ds wr HND.out (fun D hD => (HDS.out D hD).2) (fun W hk hb z1 z2 z3 => ?_)
    refine ⟨rfl, HFV.out.kc hk (fun b h => hb b (fun hD => by have := (HDS.out b hD).1; have := HNB.out; omega)), ?_⟩
    have hbw : Below base w wr := (HB0.out.mono HF.out.lt.1).trans (HG.out.below (n := base) (fun b e => by have := HNB.out; omega) (by have := HS0.out; have := HNB.out; omega))
    exact ⟨z1.trans hbw.os, z2.trans hbw.tape, z3.trans hbw.output, Nat.le_trans hbw.size hk.1, fun b hlt => (hb b (fun hD => by have := (HDS.out b hD).1; have := HNB.out; omega)).trans (hbw.block b hlt)⟩
end Go.Proofs.Ytpobckedeffjmaa
