/-
  Strings as lists of bytes: 'str l'. The walk keeps every string in this form.
-/
import Derived.Test.YtnfegmcdljejnaaBase
import Derived.Lib.Strings
set_option linter.unusedSimpArgs false
set_option linter.unusedVariables false
namespace Go.Proofs.Ytnfegmcdljejnaa
open Go.RowKit

def str (l : List UInt8) : ByteArray := ⟨l.toArray⟩
theorem str_data (l : List UInt8) : (str l).data.toList = l := rfl
theorem str_eta (s : ByteArray) : s = str s.data.toList := by cases s; simp [str]
theorem str_ex (s : ByteArray) : ∃ l, s = str l := ⟨_, str_eta s⟩
theorem str_inj {a b : List UInt8} : str a = str b ↔ a = b := ⟨fun h => by have := congrArg (fun s : ByteArray => s.data.toList) h; simpa [str] using this, fun h => by rw [h]⟩
@[go_sem] theorem str_size (l : List UInt8) : (str l).size = l.length := by simp [str, ByteArray.size]
@[go_sem] theorem str_toList (l : List UInt8) : (str l).toList = l := by rw [Lib.toList_data]; rfl
@[go_sem] theorem str_extract (l : List UInt8) (a b : Nat) : (str l).extract a b = str ((l.drop a).take (b - a)) := by
  rw [str_eta ((str l).extract a b), Lib.extract_data]; rfl
@[go_sem] theorem str_append (a b : List UInt8) : str a ++ str b = str (a ++ b) := by
  rw [str_eta (str a ++ str b)]; congr 1
@[go_sem] theorem str_get (l : List UInt8) (i : Nat) (h : i < (str l).size) : (str l)[i]'h = l[i]'(by rwa [str_size] at h) := by
  simp [str, ByteArray.getElem_eq_getElem_data]
end Go.Proofs.Ytnfegmcdljejnaa
