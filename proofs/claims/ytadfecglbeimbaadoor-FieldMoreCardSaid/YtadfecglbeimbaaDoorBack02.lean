/- Plain: texts and their bytes are one to one; what reading says of texts that are joined. -/
import Derived.Test.YtadfecglbeimbaaDoorText
import Derived.Test.YtadfecglbeimbaaDoorPutText
namespace Go.Proofs.YtadfecglbeimbaaDoor

theorem textL_put (t r : List UInt8) (ht : t.length ≤ 400) : textL (putTextL t ++ r) = .ok t r := by
  unfold textL putTextL
  rw [List.append_assoc, getL_put _ (by omega)]
  show (if 400 < t.length then GotT.field else if (t ++ r).length < t.length then .more else .ok ((t ++ r).take t.length) ((t ++ r).drop t.length)) = _
  rw [if_neg (by omega), if_neg (by rw [List.length_append]; omega), List.take_left, List.drop_left]

theorem get_cat (n : Nat) (hn : n < 18446744073709551616) (c : ByteArray) : getV (putB n ++ c) (getL (putB n ++ c).data.toList) = .tuple #[.int .u64 (n : Int), .string c, .int .i64 0] := by
  rw [ByteArray.data_append, Array.toList_append, show (putB n).data.toList = put n by simp [putB], getL_put n hn]
  rfl
theorem text_cat (t c : ByteArray) (ht : t.size ≤ 400) : getTextV ((⟨(putTextL t.data.toList).toArray⟩ : ByteArray) ++ c) (textL ((⟨(putTextL t.data.toList).toArray⟩ : ByteArray) ++ c).data.toList) = .tuple #[.string t, .string c, .int .i64 0] := by
  rw [ByteArray.data_append, Array.toList_append]
  show getTextV _ (textL (putTextL t.data.toList ++ c.data.toList)) = _
  rw [textL_put _ _ (by simpa using ht)]
  rfl
theorem back_cat (c : ByteArray) (n : Nat) (r : List UInt8) (h : getL c.data.toList = .ok n r) : ((putB n ++ (⟨r.toArray⟩ : ByteArray)).toList == c.toList) = true := by
  rw [Lib.toList_data, Lib.toList_data, ByteArray.data_append, Array.toList_append, show (putB n).data.toList = put n by simp [putB]]
  have := (getL_back _ _ _ h).1
  show (put n ++ r == c.data.toList) = true
  rw [this]
  simp

end Go.Proofs.YtadfecglbeimbaaDoor
