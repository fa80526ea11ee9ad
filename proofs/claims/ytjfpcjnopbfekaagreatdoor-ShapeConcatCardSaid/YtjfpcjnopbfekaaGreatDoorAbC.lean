/- ABSTRACT STATES: a string as a slice of bytes; a value in an interface. -/
import Derived.Test.YtjfpcjnopbfekaaGreatDoorAbH
import Derived.Lib.ConvBytes
set_option linter.unusedSimpArgs false
set_option linter.unusedVariables false
namespace Go.Ab
open Go.RowKit

def byteC (b : UInt8) : List AV := [.int .u8 (b.toNat : Int)]
theorem byteC_len (b : UInt8) : (byteC b).length = 1 := rfl

section
variable {P : Program} {ops : Array Oper} {o : Oper} {s : AS}

theorem op_bytes {src dst e : TypeId} {x : Operand} (hg : gd ops s o = some true) (hop : o.op = .convert src dst x) (hs : isStr P src = true) (hd : uSl P dst = some e) (he : uInt P e = some .u8) {l : List UInt8} (hx : s.op x = .str l) {s' : AS} (h : s.put o.dst (.dslice (l.map byteC)) = some s') : OpT P ops o s (· = s') :=
  op_runs hg fun c a w β κ r => by
    have hX := r.op x
    rw [hx] at hX
    have hl := hX.str_len
    have hrun := Lib.run_convert_string_bytes (P := P) w src dst e ⟨l.toArray⟩ (isStr_spec hs) (uSl_spec hd) (uInt_spec he)
    have hk : Keeps (fun b => b < w.heap.size) w (Lib.bytesWorld w e ⟨l.toArray⟩) :=
      ⟨rfl, rfl, rfl, by rw [Lib.bytesWorld_size]; omega, fun b hb => Lib.bytesWorld_at_old w e _ b hb⟩
    have r2 := r.later hk
    refine ⟨.slice (some ⟨w.heap.size, 0, none⟩) (⟨l.toArray⟩ : ByteArray).size (grownCap w (⟨l.toArray⟩ : ByteArray).size 0 e), Lib.bytesWorld w e ⟨l.toArray⟩, β, κ, .inl ?_, put_spec r2 (.d ?_) h⟩
    · simp only [execOp, hop, hX.str_inv, Sem.run_bind, hrun, Result.andThen]; rfl
    · have hnX : ¬ c.XX s.h β w.heap.size := by
        rintro (hx | ⟨k, hl, hk⟩)
        · have := c.hX _ hx; have := r.hp.kp.size; omega
        · have := r.hp.lt hl; omega
      have hsz : (⟨l.toArray⟩ : ByteArray).size = (l.map byteC).length := by simp [size_mk]
      rw [hsz]
      have hlen : (l.map byteC).length = l.length := by simp
      refine D.dslice (l.map byteC) w.heap.size 0 _ 1 (fun i _ => .int .u8 ((l.getD i 0).toNat : Int)) (grownCap_ge w _ _ _) (grownCap_le_maxLen w _ _ _ (by rw [hlen]; exact hl)) (by omega) hnX (fun i hi => ?_) (fun i j hi hj => ?_) (fun i j hi hj => ?_)
      · have : (l.map byteC).getD i [] = byteC (l.getD i 0) := by
          simp [List.getD_eq_getElem?_getD, List.getElem?_eq_getElem (show i < l.length by omega)]
        rw [this]; rfl
      · have := Lib.bytesWorld_cell w e ⟨l.toArray⟩ i (by rw [size_mk]; omega)
        rw [show 0 + (i * 1 + j) = i by omega]
        simpa using this
      · have : (l.map byteC).getD i [] = byteC (l.getD i 0) := by
          simp [List.getD_eq_getElem?_getD, List.getElem?_eq_getElem (show i < l.length by omega)]
        rw [this, show j = 0 by omega]
        exact .int _ _

def stepBytes (P : Program) (s : AS) : Op → Option AV
  | .convert src dst x => match s.op x, uSl P dst with
    | .str l, some e => match uInt P e with
      | some .u8 => bif isStr P src then some (.dslice (l.map byteC)) else none
      | _ => none
    | _, _ => none
  | _ => none
theorem bytes_sound (hg : gd ops s o = some true) {v : AV} (hv : stepBytes P s o.op = some v) {s' : AS} (h : s.put o.dst v = some s') : OpT P ops o s (· = s') := by
  unfold stepBytes at hv
  split at hv
  · rename_i src dst x hop
    split at hv
    · rename_i l e hx hd
      split at hv
      · rename_i he
        cases hb : isStr P src with
        | false => rw [hb] at hv; cases hv
        | true => rw [hb] at hv; cases hv; exact op_bytes hg hop hb hd he hx h
      · cases hv
    · cases hv
  · cases hv
end
end Go.Ab
