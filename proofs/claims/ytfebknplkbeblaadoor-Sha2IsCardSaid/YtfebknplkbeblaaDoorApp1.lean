/- Rows of bytes of the call's own: one byte more; a row that is laid with one byte. -/
import Derived.Test.YtfebknplkbeblaaDoorShaH
namespace Go.Proofs.YtfebknplkbeblaaDoor
open Go.RowKit
set_option linter.unusedVariables false
/-- 'append(v, c)' where v is the call's own row of bytes. -/
theorem wl_one {P : Program} {w : World} {ops : Array Oper} {rest : List Oper} {o : Oper} {a : Act} {Q : Exit → Act → World → Prop} {base : Nat} {e : TypeId} {v : Value} {n : Nat} {xs : List UInt8} (hown : w.ownsRow base e 1 v n (xs.map fun c => Value.int .u8 (c.toNat : Int)))
    (hgd : o.guard = none) (s x : Operand) (t : TypeId) (ho : o.op = .call { callee := .builtin .append, args := #[s, x], argTypes := #[t, t] }) (ht : P.underlying t = some (.slice e)) (i : TypeInfo) (hi : P.info? e = some i) (hz : i.zero = some (.int .u8 0)) (h1 : i.size = 1) (hby : i.bytes = 1)
    (hs : a.eval s = v) (g c : Nat) (ch : UInt8) (hx : a.eval x = .slice (some ⟨g, 0, none⟩) 1 c) (hc : w.cell? ⟨g, 0, none⟩ = some (.int .u8 ch.toNat)) (hn : n + 1 ≤ 140737488355328) (hbase : base ≤ w.heap.size)
    (k : ∀ v' w', w'.ownsRow base e 1 v' (n + 1) ((xs ++ [ch]).map fun c => Value.int .u8 (c.toNat : Int)) → w.grownBy w' v.ownBlock → ¬ v' = .slice none 0 0 → wpList P ops Q rest (a.put o.dst v') w') : wpList P ops Q (o :: rest) a w := by
  refine wpList_append_own w hgd s x t ho base e i (.int .u8 0) 1 1 ht hi hz h1 hby rfl (by omega) v n _ hs hown ⟨g, 0, none⟩ 1 c [Value.int .u8 (ch.toNat : Int)] hx rfl (fun j u hu => ?_) (fun u hu => ?_) (by unfold maxLen; omega) (by omega) hbase fun v' w' h2 h3 h4 => ?_
  · match j with
    | 0 => injection hu with hu; subst hu; exact hc
    | j + 1 => cases hu
  · obtain rfl := List.mem_singleton.1 hu
    rfl
  · refine k v' w' (by rw [List.map_append]; exact h2) h3 fun h5 => by have := (h4.1 h5).2; omega
/-- What a row of one's own is, as a slice. -/
theorem own_slice {w : World} {base : Nat} {e : TypeId} {v : Value} {n : Nat} {xs : List Value} (h : w.ownsRow base e 1 v n xs) : ∃ a c, v = .slice a n c := by
  obtain ⟨_, ⟨rfl, rfl⟩ | ⟨g, cap, _, rfl, _⟩⟩ := h
  · exact ⟨_, _, rfl⟩
  · exact ⟨_, _, rfl⟩
/-- A row that is laid with its bytes. -/
theorem own_laid (w : World) (l : List UInt8) (e : TypeId) (n : Nat) (hn : l.length = n) (hm : n ≤ maxLen) {base : Nat} (hb : base ≤ w.heap.size) :
    (w.alloc (.cells (l.map fun c => Value.int .u8 (c.toNat : Int)).toArray e)).ownsRow base e 1 (.slice (some ⟨w.heap.size, 0, none⟩) n n) n (l.map fun c => Value.int .u8 (c.toNat : Int)) :=
  ⟨by simp [hn], .inr ⟨w.heap.size, n, _, rfl, hb, heap_alloc_new w _, Nat.le_refl _, hm, by simp [hn], List.take_of_length_le (by simp [hn])⟩⟩
/-- What is read of a row of one's own. -/
theorem own_rds {w : World} {base : Nat} {e : TypeId} {v : Value} {n : Nat} {l : List UInt8} (h : w.ownsRow base e 1 v n (l.map fun c => Value.int .u8 (c.toNat : Int))) :
    ∃ (a : Option Addr) (c : Nat), v = .slice a n c ∧ l.length = n ∧ RdS w a l ∧ n ≤ c ∧ c ≤ maxLen ∧ (a = none → n = 0 ∧ c = 0) := by
  by_cases hv : v = .slice none 0 0
  · obtain ⟨h1, h2 | ⟨g, cap, cur, h3, _⟩⟩ := h
    · obtain ⟨h3, rfl⟩ := h2
      refine ⟨none, 0, hv, by simpa using h1, .inl ?_, Nat.le_refl _, Nat.zero_le _, fun _ => ⟨rfl, rfl⟩⟩
      simpa using h1
    · rw [hv] at h3; cases h3
  · obtain ⟨g, cap, cur, rfl, hb, hbg, h1, h2, h3, h4⟩ := own_blk h hv
    exact ⟨some ⟨g, 0, none⟩, cap, rfl, h3, .inr ⟨g, 0, rfl, hbg.lt, fun i hi => (hbg.cell (0 + i)).trans (by rw [Nat.zero_add]; exact h4 i hi)⟩, h1, h2, fun h => by cases h⟩
end Go.Proofs.YtfebknplkbeblaaDoor
