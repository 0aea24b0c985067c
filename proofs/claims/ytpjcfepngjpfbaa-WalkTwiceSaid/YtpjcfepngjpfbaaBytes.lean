/- Letters as a string; the law's Bytes. -/
import Derived.Test.YtpjcfepngjpfbaaBys
import Derived.Laws.BytesString
import Derived.Laws.Cells
namespace Go.Proofs.Ytpjcfepngjpfbaa
open Go.RowKit Go.Lib
namespace M
attribute [local go_sem] Oper.semAt_some
def bstr (l : List Nat) : ByteArray := (l.map (fun n : Nat => (n : Int))).foldl (fun r n => r.push (UInt8.ofNat n.toNat)) ByteArray.empty
theorem conv_bys {B : Nat} {W : World} {v : Value} {l : List Nat} (h : Bys B W v l) : (convert 32 9 v).run Try.prog W = .ok (.string (bstr l)) W := by
  rcases h.shape with ⟨rfl, rfl⟩ | ⟨g, cap, rfl, h1, h2⟩
  · rw [run_convert_bytes_string (e := 5) W _ _ none 0 0 Try.underlying32 Try.underlying5 Try.underlying9]
    rfl
  · rw [run_convert_bytes_string (e := 5) W _ _ _ _ _ Try.underlying32 Try.underlying5 Try.underlying9]
    refine run_bytesToString W ⟨g, 0, none⟩ l.length cap (l.map (fun n : Nat => (n : Int))) ?_
    have := run_loadCells_list (P := Try.prog) W ⟨g, 0, none⟩ (l.flatMap encB) (fun j v hv => World.ownsRow.cells h (g := g) rfl j v hv)
    rw [flatMap_len encB_len, Nat.mul_one] at this
    rw [this]
    congr 1
    have e : ∀ l : List Nat, l.flatMap encB = (l.map (fun n : Nat => (n : Int))).map (Value.int .u8) := by
      intro l
      induction l with
      | nil => rfl
      | cons a l ih => simp [encB, ih]
    rw [e]
set_option maxRecDepth 100000 in
theorem bytes_any {B1 B2 : Nat} {W : World} {v1 v2 : Value} {l : List Nat} (h1 : Bys B1 W v1 l) (h2 : Bys B2 W v2 l) :
    Calls Try.prog 17 #[v1, v2] W fun e w' => e = .returned (.bool true) ∧ w' = W := by
  have c1 := conv_bys h1; have c2 := conv_bys h2
  generalize bstr l = s at *
  clear h1 h2
  go_enter Try.func17, Try.ntmps17
  go_wp2_with fail
  go_ret
  exact ⟨rfl, rfl⟩
end M
end Go.Proofs.Ytpjcfepngjpfbaa
