/- What a commit makes of a tree and of the names' last versions. No program. -/
import Derived.Test.YtlfodhejpbjfcaaDropPlain
import Derived.Test.YtlfodhejpbjfcaaGoMaps
namespace Go.Proofs.Ytlfodhejpbjfcaa
open Go.RowKit
namespace S
/-- The order of the names. -/
abbrev blt (a b : ByteArray) : Bool := Op.bytesLess a.toList b.toList
def app1 (T : Tr ByteArray Int) (p : ByteArray × (Int × Bool)) : Tr ByteArray Int := if p.2.2 then dropM (fun a b : ByteArray => Op.bytesLess a.toList b.toList) p.1 T else putF (fun a b : ByteArray => Op.bytesLess a.toList b.toList) p.1 p.2.1 T
def appN (T : Tr ByteArray Int) (L : List (ByteArray × (Int × Bool))) : Tr ByteArray Int := L.foldl app1 T
def lastN (m : List (ByteArray × Int)) (n : Int) (L : List (ByteArray × (Int × Bool))) : List (ByteArray × Int) := L.foldl (fun m p => putA p.1 n m) m
theorem app1_sz (T : Tr ByteArray Int) (p : ByteArray × (Int × Bool)) : (app1 T p).sz ≤ T.sz + 1 := by
  unfold app1
  split
  · have := dropM_sz (fun a b : ByteArray => Op.bytesLess a.toList b.toList) p.1 T; omega
  · have := putF_sz (fun a b : ByteArray => Op.bytesLess a.toList b.toList) p.1 p.2.1 T; omega
theorem appN_sz (L : List (ByteArray × (Int × Bool))) : ∀ T : Tr ByteArray Int, (appN T L).sz ≤ T.sz + L.length := by
  induction L with
  | nil => intro T; simp [appN]
  | cons p L ih =>
    intro T
    have h1 := ih (app1 T p); have h2 := app1_sz T p
    simp only [appN, List.foldl_cons, List.length_cons] at h1 ⊢
    omega
theorem appN_snoc (T : Tr ByteArray Int) (L : List (ByteArray × (Int × Bool))) (p : ByteArray × (Int × Bool)) : appN T (L ++ [p]) = app1 (appN T L) p := by simp [appN, List.foldl_append]
theorem lastN_snoc (m : List (ByteArray × Int)) (n : Int) (L : List (ByteArray × (Int × Bool))) (p : ByteArray × (Int × Bool)) : lastN m n (L ++ [p]) = putA p.1 n (lastN m n L) := by simp [lastN, List.foldl_append]
theorem lastN_length (n : Int) (L : List (ByteArray × (Int × Bool))) : ∀ m : List (ByteArray × Int), (lastN m n L).length ≤ m.length + L.length := by
  induction L with
  | nil => intro m; simp [lastN]
  | cons p L ih =>
    intro m
    have h1 := ih (putA p.1 n m); have h2 := putA_length (s := p.1) (a := n) (l := m)
    simp only [lastN, List.foldl_cons, List.length_cons] at h1 ⊢
    omega
/-- The version that changed a name last: 0 where none did. -/
def lastOf (m : List (ByteArray × Int)) (s : ByteArray) : Int := (getA s m).getD 0
/-- Somebody has committed a change of one of these names behind version n. -/
def conf {α : Type} (m : List (ByteArray × Int)) (n : Int) (L : List (ByteArray × α)) : Bool := L.any fun p => decide (n < lastOf m p.1)
theorem conf_perm {α : Type} {m : List (ByteArray × Int)} {n : Int} {L L' : List (ByteArray × α)} (h : L.Perm L') : conf m n L = conf m n L' := h.any_eq
theorem conf_cons {α : Type} {m : List (ByteArray × Int)} {n : Int} {p : ByteArray × α} {L : List (ByteArray × α)} : conf m n (p :: L) = (decide (n < lastOf m p.1) || conf m n L) := rfl
end S
end Go.Proofs.Ytlfodhejpbjfcaa
