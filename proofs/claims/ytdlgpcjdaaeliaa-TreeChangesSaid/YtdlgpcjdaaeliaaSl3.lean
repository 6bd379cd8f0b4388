/- 'append(dst, src...)' from whatever slice of one-cell elements reads as a list. Conditions: numbers fit. -/
import Derived.Test.YtdlgpcjdaaeliaaSl
import Derived.Maps.AppendAt
import Derived.Laws.AppendOwnNone
namespace Go.Proofs.Ytdlgpcjdaaeliaa
open Go.RowKit

theorem grown_refl (w : World) (row : Option Nat) : w.grownBy w row := ⟨rfl, rfl, rfl, Nat.le_refl _, fun _ _ _ => rfl⟩

theorem wpList_append_sl {P : Program} {w : World} {ops : Array Oper} {rest : List Oper} {o : Oper} {a : Act} {Q : Exit → Act → World → Prop} {α : Type} {f : α → Value} {ys : List α} (hgd : o.guard = none) (s x : Operand) (t : TypeId)
    (ho : o.op = .call { callee := .builtin .append, args := #[s, x], argTypes := #[t, t] })
    (base : Nat) (e : TypeId) (i : TypeInfo) (z : Value) (bytes : Nat) (ht : P.underlying t = some (.slice e)) (hi : P.info? e = some i) (hz : i.zero = some z)
    (hsize : i.size = 1) (hby : i.bytes = bytes) (hzs : z.cells.size = 1)
    (v : Value) (n : Nat) (xs : List Value) (hs : a.eval s = v) (hown : w.ownsRow base e 1 v n xs)
    (u : Value) (hx : a.eval x = u) (hsrc : SlOf w u 1 (fun y => [f y]) ys) (h1 : ∀ y, (f y).oneCell' = true)
    (h63 : n + ys.length ≤ maxLen) (hbytes : (n + ys.length) * bytes ≤ 140737488355328) (hbase : base ≤ w.heap.size)
    (h : ∀ v' w', w'.ownsRow base e 1 v' (n + ys.length) (xs ++ ys.map f) → w.grownBy w' v.ownBlock → (v'.ownBlock = v.ownBlock ∨ v'.ownBlock = some w.heap.size) → wpList P ops Q rest (a.put o.dst v') w') : wpList P ops Q (o :: rest) a w := by
  rcases sl_one hsrc with ⟨rfl, ad, cap, rfl, hn⟩ | ⟨hp, b, off, cap, rfl, hlc, hb, hcell⟩
  · cases ad with
    | none =>
      obtain rfl := hn rfl
      exact wpList_append_own_none hgd s x t ho base e i 1 ht hi v n xs hs hown hx (h v w (by simpa using hown) (grown_refl _ _) (Or.inl rfl))
    | some ad =>
      exact wpList_append_own_at _ hgd s x t ho base e i z 1 bytes ht hi hz hsize hby hzs (by decide) v n xs hs hown ad 0 cap [] hx rfl (fun j u hj => by simp at hj) (fun u hu => by simp at hu) h63 hbytes hbase
        (fun v' w' g1 g2 _ g4 => h v' w' (by simpa using g1) g2 g4)
  · exact wpList_append_own_at _ hgd s x t ho base e i z 1 bytes ht hi hz hsize hby hzs (by decide) v n xs hs hown ⟨b, off, none⟩ ys.length cap (ys.map f) hx (by simp)
      (fun j u hj => by
        rw [add_none]
        rw [List.getElem?_map] at hj
        cases hjb : ys[j]? with
        | none => rw [hjb] at hj; cases hj
        | some y =>
          rw [hjb] at hj
          obtain ⟨hlt, rfl⟩ := List.getElem?_eq_some_iff.1 hjb
          rw [hcell j hlt]
          exact hj)
      (fun u hu => by obtain ⟨y, _, rfl⟩ := List.mem_map.1 hu; exact h1 y) h63 hbytes hbase
      (fun v' w' g1 g2 _ g4 => h v' w' g1 g2 g4)
end Go.Proofs.Ytdlgpcjdaaeliaa
