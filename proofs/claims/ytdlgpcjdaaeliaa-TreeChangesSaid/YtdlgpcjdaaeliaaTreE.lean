/- Has each node as many keys as it may? A tree's pairs. Plain. No condition; no program. -/
import Derived.Test.YtdlgpcjdaaeliaaTreD
namespace Go.Proofs.Ytdlgpcjdaaeliaa

def headK : Tr → Option Int
  | .nd ks _ _ => ks.head?
mutual
def sizedT : Tr → Nat → Bool
  | .nd ks vs kids, low => decide (low ≤ ks.length ∧ ks.length ≤ 4) && (if kids.length = 0 then decide (vs.length = ks.length) else (decide (vs.length = 0 ∧ kids.length = ks.length ∧ 2 ≤ ks.length) && sizedL kids ks))
def sizedL : List Tr → List Int → Bool
  | [], _ => true
  | k :: kids, xs => sizedT k 2 && (headK k == xs.head?) && sizedL kids xs.tail
end
theorem sizedL_drop {kids : List Tr} {ks : List Int} {i : Nat} (hi : i < kids.length) (hk : i < ks.length) : sizedL (kids.drop i) (ks.drop i) = (sizedT kids[i] 2 && (headK kids[i] == some ks[i]) && sizedL (kids.drop (i + 1)) (ks.drop (i + 1))) := by
  rw [List.drop_eq_getElem_cons hi, List.drop_eq_getElem_cons hk, sizedL]; rfl
theorem sizedL_end {kids : List Tr} {ks : List Int} {i : Nat} (hi : kids.length ≤ i) : sizedL (kids.drop i) (ks.drop i) = true := by
  rw [List.drop_eq_nil_of_le hi, sizedL]
/-- A kid of two keys or more has a first one. -/
theorem sized_head {t : Tr} (h : sizedT t 2 = true) : ∃ ks vs kids, t = .nd ks vs kids ∧ 2 ≤ ks.length ∧ headK t = ks.head? := by
  obtain ⟨ks, vs, kids⟩ := t
  rw [sizedT, Bool.and_eq_true, decide_eq_true_eq] at h
  exact ⟨ks, vs, kids, rfl, h.1.1, rfl⟩
mutual
def pairsT : Tr → List (Int × Int)
  | .nd ks vs kids => if kids.length = 0 then ks.zip vs else pairsL kids
def pairsL : List Tr → List (Int × Int)
  | [] => []
  | k :: l => pairsT k ++ pairsL l
end
theorem pairsL_take : ∀ (l : List Tr) (k : Nat) (hk : k < l.length), pairsL (l.take (k + 1)) = pairsL (l.take k) ++ pairsT l[k]
  | [], k, hk => by simp at hk
  | x :: l, 0, _ => by
    rw [List.take_succ_cons, List.take_zero, List.take_zero, pairsL, pairsL]
    simp [pairsL]
  | x :: l, k + 1, hk => by
    rw [List.take_succ_cons, List.take_succ_cons, pairsL, pairsL, pairsL_take l k (by simpa using hk)]
    simp
/-- Keys that rise. -/
def risesP (l : List (Int × Int)) : Bool := match l with | [] => true | x :: l => (l.all fun y => decide (x.1 < y.1)) && risesP l
/-- May a tree be? -/
def mayTr (t : Tr) : Bool := decide (deepT t 40 ≠ 0) && sizedT t 0 && risesP (pairsT t)
end Go.Proofs.Ytdlgpcjdaaeliaa
