/- The three kinds of keys. -/
import Derived.Test.YtdgclambplipnaaKeyOrd
import Derived.Test.YtdgclambplipnaaAsks
namespace Go.Proofs.Ytdgclambplipnaa
open Go.RowKit

theorem bytesLess_trans : ∀ a b c : List UInt8, Op.bytesLess a b = true → Op.bytesLess b c = true → Op.bytesLess a c = true
  | _, _, [], _, h => by cases ‹List UInt8› <;> simp [Op.bytesLess] at h
  | [], _, _ :: _, _, _ => by simp [Op.bytesLess]
  | _ :: _, [], _, h, _ => by simp [Op.bytesLess] at h
  | x :: a, y :: b, z :: c, h1, h2 => by
    simp only [Op.bytesLess, Bool.or_eq_true, Bool.and_eq_true, decide_eq_true_eq, beq_iff_eq] at *
    rcases h1 with h1 | ⟨rfl, h1⟩
    · rcases h2 with h2 | ⟨rfl, h2⟩
      · exact .inl (UInt8.lt_trans h1 h2)
      · exact .inl h1
    · rcases h2 with h2 | ⟨rfl, h2⟩
      · exact .inl h2
      · exact .inr ⟨rfl, bytesLess_trans a b c h1 h2⟩
theorem bytesLess_total : ∀ a b : List UInt8, Op.bytesLess a b = false → Op.bytesLess b a = false → a = b
  | [], [], _, _ => rfl
  | [], _ :: _, h, _ => by simp [Op.bytesLess] at h
  | _ :: _, [], _, h => by simp [Op.bytesLess] at h
  | x :: a, y :: b, h1, h2 => by
    simp only [Op.bytesLess, Bool.or_eq_false_iff, decide_eq_false_iff_not] at h1 h2
    have e : x = y := by
      have a1 := UInt8.not_lt.1 h1.1; have a2 := UInt8.not_lt.1 h2.1
      exact UInt8.le_antisymm a2 a1
    subst e
    have h1' := h1.2; have h2' := h2.2
    simp at h1' h2'
    rw [bytesLess_total a b h1' h2']
theorem bytes_ext {a b : ByteArray} (h : a.toList = b.toList) : a = b := by
  rw [ByteArray.toList_eq, ByteArray.toList_eq] at h
  obtain ⟨a⟩ := a; obtain ⟨b⟩ := b
  simpa using h
theorem strict_str : Strict (fun a b : ByteArray => Op.bytesLess a.toList b.toList) where
  irrefl _ := bytesLess_irrefl _
  trans _ _ _ h1 h2 := bytesLess_trans _ _ _ h1 h2
  total _ _ h1 h2 := bytes_ext (bytesLess_total _ _ h1 h2)
theorem keymap_str : KeyMap (fun a b : ByteArray => Op.bytesLess a.toList b.toList) (fun _ : ByteArray => True) (fun s : ByteArray => s) where
  less _ _ _ _ := rfl
  same a b _ _ := by rw [beq_iff_eq]; exact ⟨bytes_ext, fun h => by rw [h]⟩
theorem keymap_word : KeyMap (fun a b : Int => decide (a < b)) (fun n : Int => 0 ≤ n ∧ n < 18446744073709551616) (fun n : Int => wordB n) where
  less _ _ h1 h2 := word_less h1.1 h1.2 h2.1 h2.2
  same _ _ h1 h2 := by rw [word_eq h1.1 h1.2 h2.1 h2.2]; simp
theorem keymap_int : KeyMap (fun a b : Int => decide (a < b)) (fun n : Int => -9223372036854775808 ≤ n ∧ n ≤ 9223372036854775807) (fun n : Int => wordB (n + 9223372036854775808)) where
  less _ _ h1 h2 := by
    rw [word_less (by omega) (by omega) (by omega) (by omega), Bool.eq_iff_iff]
    simp
  same _ _ h1 h2 := by
    rw [word_eq (by omega) (by omega) (by omega) (by omega)]
    simp
end Go.Proofs.Ytdgclambplipnaa
