/- Chapter 23: Go's slices.Delete of one clause. -/
import Derived.Test.YteilafbohdnekaaAmC1
import Derived.Test.YteilafbohdnekaaAbL3
import Derived.WalkKit
import Derived.Deep.RegionLaw
import Derived.Deep.LoopGhost
import Derived.Lib.Walk
import Derived.Lib.SliceRun
import Derived.Lib.SlicesDelete
import Derived.Sort.WalkB12
set_option linter.unusedSimpArgs false
set_option linter.unusedVariables false
namespace Go.Ab
open Go Go.Proofs Go.RowKit Go.Lib Go.Sort
set_option maxRecDepth 1000000
set_option maxHeartbeats 4000000
abbrev vv (u : Value) : Value := u
theorem del_calls (b off cap i : Nat) (us : List Value) (w : World) (hH0 : Holds (fun u : Value => u) w b off us.toArray) (h1 : ∀ u ∈ us, u.oneCell' = true) (hcap : us.length ≤ cap) (hm : cap ≤ maxLen) (hi : i < us.length) :
    Calls Try.prog 53 #[.slice (some ⟨b, off, none⟩) us.length cap, .int .i64 i, .int .i64 (i + 1)] w fun e w' => e = .returned (.slice (some ⟨b, off, none⟩) (us.length - 1) cap) ∧
      ∃ n, w' = putRow (fun u : Value => u) (Sort.ahead w n) b off (us.take i ++ us.drop (i + 1) ++ [Value.slice none 0 0]).toArray := by
  have hm' : cap ≤ 9223372036854775807 := Nat.le_trans hm (by unfold maxLen; decide)
  obtain ⟨d, hd⟩ : ∃ d : Array Value, d = us.toArray := ⟨_, rfl⟩
  have hds : us.length = d.size := by rw [hd]; simp
  have hdl : d.toList = us := by rw [hd]
  have hH : Holds vv w b off d := by rw [hd]; exact hH0
  rw [hds] at hcap hi ⊢
  rw [← hdl] at h1 ⊢
  clear hH0 hds hdl hd
  obtain ⟨j, hj⟩ : ∃ j, j = i + 1 := ⟨_, rfl⟩
  have hij : i ≤ j := by omega
  have hjd : j ≤ d.size := by omega
  have hne : ¬ (i : Int) = (j : Int) := by omega
  rw [show ((i : Int) + 1) = (j : Int) by omega, ← hj, show d.size - 1 = d.size - (j - i) by omega]
  have hz : (Try.prog.info? 34).map (fun i => (i.size, i.zero)) = some (1, some (.slice none 0 0)) := rfl
  obtain ⟨i0, hi0, hz1, hz0⟩ : ∃ i0, Try.prog.info? 34 = some i0 ∧ i0.size = 1 ∧ i0.zero = some (.slice none 0 0) := by
    cases h : Try.prog.info? 34 with
    | none => rw [h] at hz; simp at hz
    | some i0 => rw [h] at hz; simp at hz; exact ⟨i0, rfl, hz.1, hz.2⟩
  obtain ⟨news, hnews⟩ : ∃ news, news = (d.toList.drop j).map vv := ⟨_, rfl⟩
  have hlen : news.length = d.size - j := by rw [hnews]; simp
  have hget : ∀ t, t < d.size - j → news[t]? = some (vv d[j + t]!) := by
    intro t ht
    rw [hnews, List.getElem?_map, List.getElem?_drop, Array.getElem?_toList, getElem!_pos d (j + t) (by omega), Array.getElem?_eq_getElem (by omega)]
    rfl
  obtain ⟨A, hA, hsrc⟩ : ∃ A : Addr, (if cap = j then some (⟨b, off, none⟩ : Addr) else some ⟨b, off + j, none⟩) = some A ∧ Hid (∀ t u, news[t]? = some u → w.drew.cell? (A.add t) = some u) := by
    by_cases h : cap = j
    · refine ⟨⟨b, off, none⟩, by simp [h], fun t u hu => ?_⟩
      have h0 : news.length = 0 := by rw [hlen]; omega
      rw [List.length_eq_zero_iff.1 h0] at hu
      simp at hu
    · refine ⟨⟨b, off + j, none⟩, by simp [h], fun t u hu => ?_⟩
      have ht : t < d.size - j := by
        have := (List.getElem?_eq_some_iff.1 hu).1
        rwa [hlen] at this
      rw [hget t ht] at hu
      rw [Addr.add_lit, show off + j + t = off + (j + t) by omega]
      exact (hH (j + t) (by omega)).1.trans hu
  have s1 : Hid (news.length = (d.size - j) * 1) := by rw [Nat.mul_one]; exact hlen
  have s2 : Hid (∀ u ∈ news, u.oneCell' = true) := by
    intro u hu
    rw [hnews] at hu
    obtain ⟨x, hx, rfl⟩ := List.mem_map.1 hu
    exact h1 x (List.mem_of_mem_drop hx)
  have s3 : Hid (∀ t, t < news.length → (w.drew.cell? ⟨b, off + i * 1 + t, none⟩).isSome = true ∧ w.drew.frozen? ⟨b, off + i * 1 + t, none⟩ = false) := by
    intro t ht
    rw [hlen] at ht
    rw [Nat.mul_one, Nat.add_assoc]
    exact ⟨by show (w.cell? _).isSome = true; rw [(hH (i + t) (by omega)).1]; rfl, (hH (i + t) (by omega)).2⟩
  obtain ⟨W1, hW1⟩ : ∃ W1, W1 = w.drew.setCells b (off + i * 1) news := ⟨_, rfl⟩
  have hW1' : W1 = putRow vv (Sort.ahead w 1) b off (lay d i (d.toList.drop j)) := by
    rw [hW1, hnews, Nat.mul_one, ← putRow_setCells vv (Sort.ahead w 1) b off _ d i (by simp; omega), putRow_self vv (Sort.ahead w 1) b off d (holds_ahead vv w 1 b off d hH)]
    rfl
  have hH1 : Holds vv W1 b off (lay d i (d.toList.drop j)) := by rw [hW1']; exact holds_putRow vv _ b off d _ (holds_ahead vv w 1 b off d hH) (lay_size _ _ _)
  have hv : ∀ w, (zeroValue 34).run Try.prog w = .ok (Value.slice none 0 0) w := fun w => by simp [zeroValue, typeInfo, hi0, hz0]
  have hcl : ∀ ty, (Builtin.clear_ #[22] ty #[.slice (some ⟨b, off + (i + (d.size - j)), none⟩) (d.size - (i + (d.size - j))) (cap - (i + (d.size - j)))]).run Try.prog W1 = .ok (.tuple #[]) (W1.setCells b (off + (i + (d.size - j))) (List.replicate (d.size - (i + (d.size - j))) (Value.slice none 0 0))) :=
    fun ty => Lib.run_clear_slice W1 _ _ ty _ Try.underlying22 hv rfl rfl b (off + (i + (d.size - j))) _ _ (by omega) (fun t ht => by rw [show off + (i + (d.size - j)) + t = off + (i + (d.size - j) + t) by omega, (hH1 _ (by rw [lay_size]; omega)).1]; rfl) (fun t ht => by rw [show off + (i + (d.size - j)) + t = off + (i + (d.size - j) + t) by omega]; exact (hH1 _ (by rw [lay_size]; omega)).2)
  have X : Aside (W1 = putRow vv (Sort.ahead w 1) b off (lay d i (d.toList.drop j))) := hW1'
  have hW : Hid (W1 = w.drew.setCells b (off + i * 1) news) := hW1
  have hic : i ≤ cap := by omega
  have hjc : j ≤ cap := by omega
  have hji : j - i = 1 := by omega
  clear hW1 hW1' hH1 hH hget hnews hlen hj h1
  go_enter Try.func53, Try.ntmps53
  go_wp2_with fail
  go_region_law (refine step_append_room rfl (.tmp 22) (.tmp 25) 22 rfl 34 i0 1 Try.underlying22 hi0 hz1 b off i cap (by simp [Act.eval, Act.put]) A (d.size - j) (cap - j) news (by simp [Act.eval, Act.put]) s1.out hsrc.out s2.out (by omega) s3.out ?_; rw [← hW.out])
  go_wp2
  go_ret
  refine ⟨by rw [show d.size - (j - i) = i + (d.size - j) by omega]; rfl, 1, ?_⟩
  rw [show [Value.slice none 0 0] = List.replicate (j - i) (Value.slice none 0 0) by rw [hji]; rfl]
  rw [← delete_arr d i j _ hij hjd, ← putRow_setCells vv _ b off _ _ (i + (d.size - j)) (by rw [lay_size]; simp; omega), ← X.out, List.map_replicate, show d.size - (i + (d.size - j)) = j - i by omega]
theorem del_C : DelC Try.prog 53 (Value.slice none 0 0) where
  enters := enters_of Try.func53 rfl (by decide)
  calls := fun b cap i us w h1 h2 h3 h4 h5 => del_calls b 0 cap i us w h1 h2 h3 h4 h5
end Go.Ab
