/- Layer 53: maps of names; a list of tasks is valid. -/
import Derived.Test.YtdcjocldggmdbaaW53n
set_option linter.unusedSimpArgs false
namespace Go.Proofs.Ytdcjocldggmdbaa
open Go.RowKit Go

noncomputable def nameK : KeyS Try.prog 9 ByteArray where
  K := Maps.string_keyed Try.underlying9
  v := .string
  ok := fun s => s.size ≤ maxLen
  l := fun s => .string s.data.toList
  hl := fun s h => by
    have h : s.size ≤ maxLen := h
    simp [keyOf, mapKey, Try.underlying9, h]
  inj := fun x y _ _ h => by
    have h : x.data.toList = y.data.toList := by simpa using h
    exact ByteArray.ext (Array.toList_inj.1 h)
noncomputable def boolE53 : ElS Try.prog 4 Bool := boolEl Try.underlying4 (fun _ => by kernel_rfl)
def hasN (l : List ByteArray) (n : ByteArray) : Bool := l.any fun x => decide (x = n)
theorem hasN_iff {l : List ByteArray} {n : ByteArray} : hasN l n = true ↔ n ∈ l := by
  unfold hasN
  rw [List.any_eq_true]
  constructor
  · rintro ⟨x, hx, h⟩
    rw [← of_decide_eq_true h]; exact hx
  · intro h
    exact ⟨n, h, decide_eq_true rfl⟩
theorem hasN_put (l : List ByteArray) (n x : ByteArray) : hasN (l ++ [n]) x = (hasN l x || decide (n = x)) := by
  unfold hasN
  rw [List.any_append]
  simp
/-- A set of names. -/
def NSet (w : World) (b m : Nat) (l : List ByteArray) : Prop := MapG nameK boolE53 w b m (fun n => if hasN l n = true then some true else none)
theorem NSet.look {w : World} {b m : Nat} {l : List ByteArray} (h : NSet w b m l) (n : ByteArray) (hn : n.size ≤ maxLen) : Sem.run Try.prog (Instr.lookup 87 (.map (some b)) (.string n) false) w = .ok (.bool (hasN l n)) w := by
  have e : (if hasN l n = true then some true else none).getD false = hasN l n := by cases hasN l n <;> rfl
  have := MapG.look1 h Try.underlying87 n hn
  rw [show boolE53.v ((if hasN l n = true then some true else none).getD boolE53.z) = .bool (hasN l n) from congrArg Value.bool e] at this
  exact this
theorem NSet.store {w : World} {b m : Nat} {l : List ByteArray} (h : NSet w b m l) (hm : m ≤ 1000000) (n : ByteArray) (hn : n.size ≤ maxLen) :
    ∃ w' m', Sem.run Try.prog (Instr.mapUpdate 87 (.map (some b)) (.string n) (.bool true)) w = .ok () w' ∧ m' ≤ m + 1 ∧ NSet w' b m' (l ++ [n]) ∧ w.mapTurned w' b := by
  obtain ⟨w', h1, h2, h3⟩ := MapG.store h Try.underlying87 (by simp [maxLen]; omega) n hn true trivial
  refine ⟨w', (if (if hasN l n = true then some true else none : Option Bool).isSome then m else m + 1), h1, by cases hasN l n <;> simp, MapG.congr h2 (fun x _ => ?_), h3⟩
  rw [hasN_put]
  by_cases hx : x = n
  · subst hx; simp
  · have : ¬ n = x := fun e => hx e.symm
    simp [hx, this]
theorem NSet.made (w : World) : NSet (w.alloc (.map #[] 0)) w.heap.size 0 [] := MapG.congr (MapG.made w) (fun _ _ => rfl)
def NeedsOk (known l : List ByteArray) : Prop := ∀ j (hj : j < l.length), hasN known l[j] = true ∧ hasN (l.take j) l[j] = false
def TaskOk (known : List ByteArray) (t : Tk) : Prop := NeedsOk known t.needs ∧ hasN known t.name = false ∧ nameB t.name = true
def ValidT (ts : List Tk) : Prop := 1 ≤ ts.length ∧ ts.length ≤ 20 ∧ ∀ i (hi : i < ts.length), TaskOk ((ts.take i).map Tk.name) ts[i]
def ValidP (ts : List Tk) (w : World) (e : Ending) (w' : World) : Prop := ∃ b, e = .returned (.bool b) ∧ Below w.heap.size w w' ∧ (b = true ↔ ValidT ts)
set_option maxRecDepth 20000 in
set_option maxHeartbeats 1000000 in
theorem valid53 {S : Nat → Prop} (w : World) (a : Option Addr) (len cap : Nat) (xs : List taskT.den) (hx : Rd (.sl taskT) S w [.slice a len cap] xs) (hS : ∀ b, S b → b < w.heap.size) (hlen : len ≤ 1000000) (hns : ∀ i (hi : i < xs.length), (tk xs[i]).needs.length ≤ 1000000) :
    Calls Try.prog 13 #[.slice a len cap] w (ValidP (xs.map tk) w) := by
  have hl : xs.length = len := hx.sl_flat.1
  have HX := Lib.hid hx
  have HS := Lib.hid hS
  have HL := Lib.hid hl
  have HNS := Lib.hid hns
  have HLEN := Lib.hid hlen
  have HK0 := Lib.hid (NSet.made w)
  have HB0 := Lib.hid ((Below.refl _ w).alloc (Nat.le_refl _) (.map #[] 0))
  have hmm := fun w => @run_makeMap Try.prog w
  clear hx hS hl hns
  go_enter Try.func13, Try.ntmps13
  go_wp2_with fail
  generalize w.alloc (.map #[] 0) = w1 at *
  generalize hkm : w.heap.size = km at HK0 ⊢
  have HKM := Lib.hid hkm
  clear hkm
  go_loopw [12] (fun i wr => ∃ k mk : Nat, k ≤ len ∧ mk ≤ k ∧ i = .int .i64 k ∧ NSet wr km mk ((xs.take k).map fun x => (tk x).name) ∧ (∀ j (hj : j < xs.length), j < k → TaskOk ((xs.take j).map fun x => (tk x).name) (tk xs[j])) ∧ Below w.heap.size w wr) (fun i _ => len - (intOf i).toNat)
  case atStart => exact ⟨0, 0, Nat.zero_le _, Nat.le_refl _, rfl, HK0.out, fun j _ hj => absurd hj (by omega), HB0.out⟩
  case round =>
    obtain ⟨k, mk, hk, hmk, rfl, hN, hok, hB⟩ := hrel
    have HN := Lib.hid hN
    have HOK := Lib.hid hok
    have HB := Lib.hid hB
    clear hN hok
    by_cases hlt : k < len
    · have hkI : (k : Int) < (len : Int) := by omega
      have hkx : k < xs.length := by rw [HL.out]; exact hlt
      obtain ⟨b, o, na, nl, nc, rfl, -, m0, m1, m2, m3, hnd, hnm⟩ := task_at (HX.out.below hB HS.out) k hkx
      have HTN := Lib.hid (show TaskOk ((xs.take k).map fun x => (tk x).name) (tk xs[k]) → ∀ j (hj : j < xs.length), j < k + 1 → TaskOk ((xs.take j).map fun x => (tk x).name) (tk xs[j]) from fun h j hj hjk => by
        by_cases e : j = k
        · subst e; exact h
        · exact HOK.out j hj (by omega))
      have HTB := Lib.hid (show ¬ TaskOk ((xs.take k).map fun x => (tk x).name) (tk xs[k]) → ¬ ValidT (xs.map tk) from fun h hv => h (by
        have := hv.2.2 k (by rw [List.length_map]; exact hkx)
        rw [List.getElem_map, ← List.map_take, List.map_map] at this
        exact this))
      have HNM1 := Lib.hid (show (xs.take (k + 1)).map (fun x => (tk x).name) = (xs.take k).map (fun x => (tk x).name) ++ [(tk xs[k]).name] from by rw [List.take_succ_eq_append_getElem hkx, List.map_append]; rfl)
      have hnn := HNS.out k hkx
      have HLT := Lib.hid hlt
      generalize (xs.take k).map (fun x => (tk x).name) = known at HN HTN HTB HNM1
      generalize tk xs[k] = t at m0 m2 m3 hnd hnm hnn HTN HTB HNM1
      obtain ⟨tnm, tnd, tg, ta⟩ := t
      simp only at m0 m2 m3 hnd hnm hnn
      have hnl : tnd.length = nl := hnd.sl_flat.1
      have hnlb : nl ≤ 1000000 := by rw [← hnl]; exact hnn
      have HND := Lib.hid hnd
      have HNM := Lib.hid hnm
      have HNL := Lib.hid hnl
      have hrz := heap_alloc_new wr (.cells #[.string ⟨#[]⟩, .slice none 0 0, .bool false, .bool false] 38)
      have hBz := (Below.refl wr.heap.size wr).alloc (Nat.le_refl _) (.cells #[.string ⟨#[]⟩, .slice none 0 0, .bool false, .bool false] 38)
      have HRZ := Lib.hid hrz
      have hrow := setRow_heap _ _ _ #[.string tnm, .slice na nl nc, .bool tg, .bool ta] _ _ hrz
      have hBs := below_setRow (n := wr.heap.size) hBz (Nat.le_refl _) #[.string tnm, .slice na nl nc, .bool tg, .bool ta]
      have hsz : ((wr.alloc (.cells #[.string ⟨#[]⟩, .slice none 0 0, .bool false, .bool false] 38)).setRow wr.heap.size #[.string tnm, .slice na nl nc, .bool tg, .bool ta]).heap.size = wr.heap.size + 1 := by simp
      have hBm := (Below.refl _ ((wr.alloc (.cells #[.string ⟨#[]⟩, .slice none 0 0, .bool false, .bool false] 38)).setRow wr.heap.size #[.string tnm, .slice na nl nc, .bool tg, .bool ta])).alloc (Nat.le_refl _) (.map #[] 0)
      have hrow3 := (hBm.block _ (blk_lt hrow)).trans hrow
      have hM3 := NSet.made ((wr.alloc (.cells #[.string ⟨#[]⟩, .slice none 0 0, .bool false, .bool false] 38)).setRow wr.heap.size #[.string tnm, .slice na nl nc, .bool tg, .bool ta])
      rw [hsz] at hM3
      have x1 := blk_cell hrow3 1
      simp at x1
      have HROW3 := Lib.hid hrow3
      have HM3 := Lib.hid hM3
      have HB3 := Lib.hid (below_step hBs hBm)
      clear hrz hBz hrow hBs hsz hBm hrow3 hM3 hkx hlt hnd hnm hnl hnn hB
      go_wp2_with (refine wpList_store_row rfl _ _ _ rfl (wr.heap.size) #[.string tnm, .slice na nl nc, .bool tg, .bool ta] rfl rfl 38 _ HRZ.out (by kernel_rfl) (by rfl) (by simp [Value.oneCell']) ?_)
      have hrow3 := HROW3.out
      have hM3 := HM3.out
      have hB3 := HB3.out
      generalize hw3 : World.alloc (World.setRow (wr.alloc _) _ _) _ = w3 at hrow3 hM3 hB3 x1 ⊢
      clear hw3 HROW3 HM3 HB3 m0 m1 m2 m3 x1
      have HR3 := Lib.hid hrow3
      have HM3 := Lib.hid hM3
      have HB3 := Lib.hid (below_step HB.out hB3)
      have HN3 := Lib.hid (MapG.below HN.out hB3)
      have hkmr : km < wr.heap.size := MapG.lt HN.out
      have HKMR := Lib.hid hkmr
      clear hrow3 hM3 hB3 hkmr
      generalize htb : wr.heap.size = tb at *
      go_loopw [20] (fun i wj => ∃ q mq : Nat, q ≤ nl ∧ mq ≤ q ∧ i = .int .i64 q ∧ NSet wj km mk known ∧ NSet wj (tb + 1) mq (tnd.take q) ∧ (∀ j (hj : j < tnd.length), j < q → hasN known tnd[j] = true ∧ hasN (tnd.take j) tnd[j] = false) ∧ Below w.heap.size w wj ∧ wj.heap[tb]? = some (.cells #[.string tnm, .slice na nl nc, .bool tg, .bool ta] 38 (0, 0))) (fun i _ => nl - (intOf i).toNat)
      case atStart => exact ⟨0, 0, Nat.zero_le _, Nat.le_refl _, rfl, HN3.out, HM3.out, fun j _ hj => absurd hj (by omega), HB3.out, HR3.out⟩
      case round =>
        obtain ⟨q, mq, hq, hmq, rfl, hN2, hM2, hok2, hB2, hr2⟩ := hrel
        have HN2 := Lib.hid hN2
        have HM2 := Lib.hid hM2
        have HOK2 := Lib.hid hok2
        have HB2 := Lib.hid hB2
        have HR2 := Lib.hid hr2
        clear hN2 hM2 hok2 hr2
        by_cases hqt : q < nl
        · have hqI : (q : Int) < (nl : Int) := by omega
          have hqx : q < tnd.length := by rw [HNL.out]; exact hqt
          obtain ⟨-, -, -, hat⟩ := (HND.out.keep (w' := wr) (fun b hb => (hB2.block b (HS.out b hb)).trans (HB.out.block b (HS.out b hb)).symm) (fun _ h => h)).sl1 rfl
          obtain ⟨nb, noff, nv, rfl, hSn, n0, hnv, hnsz⟩ := hat q hqx
          obtain rfl : nv = .string tnd[q] := by simpa using hnv
          clear hnv
          have HNQ := Lib.hid (show ∀ j (hj : j < tnd.length), j < q + 1 → (hasN known tnd[q] = true ∧ hasN (tnd.take q) tnd[q] = false) → hasN known tnd[j] = true ∧ hasN (tnd.take j) tnd[j] = false from fun j hj hjq h => by
            by_cases e : j = q
            · subst e; exact h
            · exact HOK2.out j hj (by omega))
          have HNB := Lib.hid (show ¬ (hasN known tnd[q] = true ∧ hasN (tnd.take q) tnd[q] = false) → ¬ ValidT (xs.map tk) from fun h => HTB.out fun ht => h (ht.1 q hqx))
          have HTK := Lib.hid (show tnd.take (q + 1) = tnd.take q ++ [tnd[q]] from List.take_succ_eq_append_getElem hqx)
          have l1 := HN2.out.look tnd[q] hnsz
          have l2 := HM2.out.look tnd[q] hnsz
          have HQT := Lib.hid hqt
          have HSZ := Lib.hid hnsz
          generalize tnd[q] = s at n0 l1 l2 HNQ HNB HTK HSZ
          obtain ⟨b1, hb1⟩ : ∃ b, hasN known s = b := ⟨_, rfl⟩
          obtain ⟨b2, hb2⟩ : ∃ b, hasN (tnd.take q) s = b := ⟨_, rfl⟩
          rw [hb1] at l1 HNQ HNB
          rw [hb2] at l2 HNQ HNB
          clear hqt hqx hnsz hb1 hb2 hB2
          cases b1
          · go_wp2_with fail
            go_ret
            exact ⟨false, rfl, HB2.out, fun h => (by cases h), fun h => absurd h (HNB.out (by simp))⟩
          cases b2
          rotate_left
          · go_wp2_with fail
            go_ret
            exact ⟨false, rfl, HB2.out, fun h => (by cases h), fun h => absurd h (HNB.out (by simp))⟩
          obtain ⟨w5, m5, hrun, hm5, hM5, hT5⟩ := HM2.out.store (by omega) s HSZ.out
          have hg := Gr.of_turned hT5
          have HM5 := Lib.hid hM5
          have HG5 := Lib.hid hg
          have HM5L := Lib.hid hm5
          clear hM5 hT5 hg hm5
          go_wp2_with fail
          have hlow : w.heap.size ≤ tb + 1 := by have h1 := HKM.out; have h2 := HKMR.out; omega
          have hB5 := HG5.out.below (n := w.heap.size) (fun b e => by omega) HB2.out.size
          go_roundw
          case rel => exact ⟨q + 1, m5, HQT.out, by have := HM5L.out; omega, by go_num, MapG.gr HN2.out HG5.out (by have := HKMR.out; omega), by rw [HTK.out]; exact HM5.out, fun j hj hjq => HNQ.out j hj hjq ⟨rfl, rfl⟩, HB2.out.trans hB5, blk_gr HG5.out HR2.out (by omega)⟩
          case measure => simp [intOf]; try omega
        · obtain rfl : nl = q := by omega
          have HNE := Lib.hid (show NeedsOk known tnd from fun j hj => HOK2.out j hj (by rw [← HNL.out]; exact hj))
          have x0 := blk_cell HR2.out 0
          simp at x0
          have l1 := HN2.out.look tnm HNM.out
          obtain ⟨b1, hb1⟩ : ∃ b, hasN known tnm = b := ⟨_, rfl⟩
          obtain ⟨b2, hb2⟩ : ∃ b, nameB tnm = b := ⟨_, rfl⟩
          rw [hb1] at l1
          have HB1 := Lib.hid hb1
          have HB2n := Lib.hid hb2
          have HNA := Lib.hid (name53 wr tnm HNM.out)
          rw [hb2] at HNA
          clear hqt hb1 hb2 hB2
          cases b1
          rotate_left
          · go_wp2_with fail
            go_ret
            exact ⟨false, rfl, HB2.out, fun h => (by cases h), fun h => absurd h (HTB.out fun ht => by have := ht.2.1; rw [HB1.out] at this; cases this)⟩
          go_wp2_with fail
          refine HNA.out.mono ?_
          rintro e w4 ⟨rfl, rfl⟩
          cases b2
          · go_wp2_with fail
            go_ret
            exact ⟨false, rfl, HB2.out, fun h => (by cases h), fun h => absurd h (HTB.out fun ht => by have := ht.2.2; rw [HB2n.out] at this; cases this)⟩
          obtain ⟨w5, m5, hrun, hm5, hM5, hT5⟩ := HN2.out.store (by have := HLEN.out; omega) tnm HNM.out
          have HM5 := Lib.hid hM5
          have HG5 := Lib.hid (Gr.of_turned hT5)
          have HM5L := Lib.hid hm5
          clear hM5 hT5 hm5
          go_wp2_with fail
          have hB5 := HG5.out.below (n := w.heap.size) (fun b e => by have := HKM.out; omega) HB2.out.size
          go_roundw
          case rel => exact ⟨k + 1, m5, HLT.out, by have := HM5L.out; omega, by go_num, by rw [HNM1.out]; exact HM5.out, HTN.out ⟨HNE.out, HB1.out, HB2n.out⟩, HB2.out.trans hB5⟩
          case measure => simp [intOf]; try omega
    · obtain rfl : len = k := by omega
      have HV := Lib.hid (show 1 ≤ len → len ≤ 20 → ValidT (xs.map tk) from fun h1 h2 => ⟨by rw [List.length_map, HL.out]; exact h1, by rw [List.length_map, HL.out]; exact h2, fun i hi => by
        rw [List.length_map] at hi
        rw [List.getElem_map, ← List.map_take, List.map_map]
        exact HOK.out i hi (by rw [← HL.out]; exact hi)⟩)
      have HVN := Lib.hid (show ValidT (xs.map tk) → 1 ≤ len ∧ len ≤ 20 from fun h => by have h1 := h.1; have h2 := h.2.1; rw [List.length_map, HL.out] at h1 h2; exact ⟨h1, h2⟩)
      clear hB hlt
      by_cases h1 : (1 : Int) ≤ (len : Int)
      · by_cases h2 : (len : Int) ≤ 20
        · have HH := Lib.hid (show 1 ≤ len ∧ len ≤ 20 by omega)
          go_wp2_with fail
          go_ret
          refine ⟨true, ?_, HB.out, fun _ => HV.out HH.out.1 HH.out.2, fun _ => rfl⟩
          first | rfl | simp_all
        · have HH := Lib.hid (show ¬ len ≤ 20 by omega)
          go_wp2_with fail
          go_ret
          refine ⟨false, ?_, HB.out, fun h => (by cases h), fun h => absurd (HVN.out h).2 HH.out⟩
          first | rfl | (simp; omega)
      · have HH := Lib.hid (show ¬ 1 ≤ len by omega)
        go_wp2_with fail
        go_ret
        exact ⟨false, rfl, HB.out, fun h => (by cases h), fun h => absurd (HVN.out h).1 HH.out⟩
end Go.Proofs.Ytdcjocldggmdbaa
