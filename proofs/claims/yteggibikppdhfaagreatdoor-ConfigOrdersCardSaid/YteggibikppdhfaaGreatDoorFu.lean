/- What the program's functions compute, as functions over data that may have no value. No condition. -/
import Derived.Test.YteggibikppdhfaaGreatDoorSh
namespace Go.PL
set_option linter.unusedSimpArgs false
set_option linter.unusedVariables false
set_option linter.unusedSectionVars false
open Tys (Ty U)
open Enc (sz enc dflt tb ofB toB)
open Dec (dec dok)
set_option maxRecDepth 100000
open Go.Proofs
variable [GM]
noncomputable def transhipmentlaw10_many_S_B1 (A : Ar) (rf : Route → Int → Option Int) (x0 : Route) (x1 : Int) : Int × Int → Option ((Int × Int) ⊕ Int)
 | (n5, t11) =>
  br (A.cmp BinOp.lss t11 (A.len TyS.route x0.9)) (
   ck (A.inb t11 (A.len TyS.route x0.9)) <|
   br (A.cmp BinOp.gtr n5 x1) (
    rt (
     some n5
    )
   ) (
    bd (rf (A.get TyS.route x0.9 t11) (A.ar BinOp.sub IntKind.i64 x1 n5)) fun w2 =>
    some (.inl ((A.ar BinOp.add IntKind.i64 n5 w2, A.ar BinOp.add IntKind.i64 t11 1)))
   )
  ) (
   rt (
    some n5
   )
  )
noncomputable def transhipmentlaw10_many_S (A : Ar) (rf : Route → Int → Option Int) (x0 : Route) (x1 : Int) : Option Int :=
 Loop (transhipmentlaw10_many_S_B1 A rf x0 x1) ((1, 0))
noncomputable def transhipmentlaw10_many_N (A : Ar) : Nat → Route → Int → Option Int
 | 0, _, _ => none
 | n + 1, x0, x1 => transhipmentlaw10_many_S A (transhipmentlaw10_many_N A n) x0 x1
noncomputable def transhipmentlaw10_many (A : Ar) (x0 : Route) (x1 : Int) : Option Int := transhipmentlaw10_many_N A (SizeOf.sizeOf x0 + 1) x0 x1
noncomputable def transhipmentlaw10_big (A : Ar) (x0 : Config) : Option Bool :=
 bd (transhipmentlaw10_many A x0.2 40) fun w1 =>
 some (A.or (A.or (A.or (A.or (A.cmp BinOp.gtr w1 40) (A.cmp BinOp.gtr (A.len TyS.rule x0.1) 18)) (A.cmp BinOp.gtr (A.len TyS.str x0.3) 18)) (A.cmp BinOp.gtr (A.len TyS.inhibit x0.4) 10)) (A.cmp BinOp.gtr (A.len TyS.hours x0.5) 10))
noncomputable def config_all_Rule_1 (A : Ar) (x0 : Rule) (qc0 : Rule → Option Bool) : Option Bool :=
 bd (qc0 x0) fun w1 =>
 some (A.not w1)
noncomputable def slices_IndexFunc_Rule_Rule_B1 (A : Ar) (x0 : List Rule) (q1 : Rule → Option Bool) : Int → Option (Int ⊕ Int)
 | t8 =>
  br (A.cmp BinOp.lss t8 (A.len TyS.rule x0)) (
   ck (A.inb t8 (A.len TyS.rule x0)) <|
   bd (q1 (A.get TyS.rule x0 t8)) fun w2 =>
   br (w2) (
    rt (
     some t8
    )
   ) (
    some (.inl (A.ar BinOp.add IntKind.i64 t8 1))
   )
  ) (
   rt (
    some (-1)
   )
  )
noncomputable def slices_IndexFunc_Rule_Rule (A : Ar) (x0 : List Rule) (q1 : Rule → Option Bool) : Option Int :=
 Loop (slices_IndexFunc_Rule_Rule_B1 A x0 q1) 0
noncomputable def slices_ContainsFunc_Rule_Rule (A : Ar) (x0 : List Rule) (q1 : Rule → Option Bool) : Option Bool :=
 bd (slices_IndexFunc_Rule_Rule A x0 q1) fun w1 =>
 some (A.cmp BinOp.geq w1 0)
noncomputable def config_all_Rule (A : Ar) (x0 : List Rule) (x1 : Int) (q2 : Rule → Option Bool) : Option Bool :=
 bd (gd false (A.cmp BinOp.leq (A.len TyS.rule x0) x1) (slices_ContainsFunc_Rule_Rule A x0 fun y0 => config_all_Rule_1 A y0 q2)) fun w1 =>
 some (A.and (A.cmp BinOp.leq (A.len TyS.rule x0) x1) (A.not w1))
noncomputable def slices_IndexFunc_Def_Def_B1 (A : Ar) (x0 : List Def) (q1 : Def → Option Bool) : Int → Option (Int ⊕ Int)
 | t8 =>
  br (A.cmp BinOp.lss t8 (A.len TyS.dfn x0)) (
   ck (A.inb t8 (A.len TyS.dfn x0)) <|
   bd (q1 (A.get TyS.dfn x0 t8)) fun w2 =>
   br (w2) (
    rt (
     some t8
    )
   ) (
    some (.inl (A.ar BinOp.add IntKind.i64 t8 1))
   )
  ) (
   rt (
    some (-1)
   )
  )
noncomputable def slices_IndexFunc_Def_Def (A : Ar) (x0 : List Def) (q1 : Def → Option Bool) : Option Int :=
 Loop (slices_IndexFunc_Def_Def_B1 A x0 q1) 0
noncomputable def slices_ContainsFunc_Def_Def (A : Ar) (x0 : List Def) (q1 : Def → Option Bool) : Option Bool :=
 bd (slices_IndexFunc_Def_Def A x0 q1) fun w1 =>
 some (A.cmp BinOp.geq w1 0)
noncomputable def block_word_1 (A : Ar) (x0 : Int) : Option Bool :=
 some (A.and (A.and (A.or (A.cmp BinOp.lss x0 97) (A.cmp BinOp.gtr x0 122)) (A.or (A.cmp BinOp.lss x0 48) (A.cmp BinOp.gtr x0 57))) (A.cmp BinOp.neq x0 95))
noncomputable def slices_IndexFunc_byte_byte_B1 (A : Ar) (x0 : List UInt8) (q1 : Int → Option Bool) : Int → Option (Int ⊕ Int)
 | t8 =>
  br (A.cmp BinOp.lss t8 (A.len TyS.byte x0)) (
   ck (A.inb t8 (A.len TyS.byte x0)) <|
   bd (q1 (Int.ofNat (A.get TyS.byte x0 t8).1.1.1)) fun w2 =>
   br (w2) (
    rt (
     some t8
    )
   ) (
    some (.inl (A.ar BinOp.add IntKind.i64 t8 1))
   )
  ) (
   rt (
    some (-1)
   )
  )
noncomputable def slices_IndexFunc_byte_byte (A : Ar) (x0 : List UInt8) (q1 : Int → Option Bool) : Option Int :=
 Loop (slices_IndexFunc_byte_byte_B1 A x0 q1) 0
noncomputable def slices_ContainsFunc_byte_byte (A : Ar) (x0 : List UInt8) (q1 : Int → Option Bool) : Option Bool :=
 bd (slices_IndexFunc_byte_byte A x0 q1) fun w1 =>
 some (A.cmp BinOp.geq w1 0)
noncomputable def block_word (A : Ar) (x0 : ByteArray) : Option Bool :=
 bd (gd false (A.and (A.scmp BinOp.neq x0 (ByteArray.mk (Array.mk []))) (A.cmp BinOp.leq (A.slen x0) 64)) (slices_ContainsFunc_byte_byte A (A.s2b x0) fun y0 => block_word_1 A y0)) fun w1 =>
 some (A.and (A.and (A.scmp BinOp.neq x0 (ByteArray.mk (Array.mk []))) (A.cmp BinOp.leq (A.slen x0) 64)) (A.not w1))
noncomputable def slices_Index_string_string_B1 (A : Ar) (x0 : List ByteArray) (x1 : ByteArray) : Int → Option (Int ⊕ Int)
 | t8 =>
  br (A.cmp BinOp.lss t8 (A.len TyS.str x0)) (
   ck (A.inb t8 (A.len TyS.str x0)) <|
   br (A.scmp BinOp.eql x1 (A.get TyS.str x0 t8)) (
    rt (
     some t8
    )
   ) (
    some (.inl (A.ar BinOp.add IntKind.i64 t8 1))
   )
  ) (
   rt (
    some (-1)
   )
  )
noncomputable def slices_Index_string_string (A : Ar) (x0 : List ByteArray) (x1 : ByteArray) : Option Int :=
 Loop (slices_Index_string_string_B1 A x0 x1) 0
noncomputable def slices_Contains_string_string (A : Ar) (x0 : List ByteArray) (x1 : ByteArray) : Option Bool :=
 bd (slices_Index_string_string A x0 x1) fun w1 =>
 some (A.cmp BinOp.geq w1 0)
noncomputable def slices_IndexFunc_string_string_B1 (A : Ar) (x0 : List ByteArray) (q1 : ByteArray → Option Bool) : Int → Option (Int ⊕ Int)
 | t8 =>
  br (A.cmp BinOp.lss t8 (A.len TyS.str x0)) (
   ck (A.inb t8 (A.len TyS.str x0)) <|
   bd (q1 (A.get TyS.str x0 t8)) fun w2 =>
   br (w2) (
    rt (
     some t8
    )
   ) (
    some (.inl (A.ar BinOp.add IntKind.i64 t8 1))
   )
  ) (
   rt (
    some (-1)
   )
  )
noncomputable def slices_IndexFunc_string_string (A : Ar) (x0 : List ByteArray) (q1 : ByteArray → Option Bool) : Option Int :=
 Loop (slices_IndexFunc_string_string_B1 A x0 q1) 0
noncomputable def slices_ContainsFunc_string_string (A : Ar) (x0 : List ByteArray) (q1 : ByteArray → Option Bool) : Option Bool :=
 bd (slices_IndexFunc_string_string A x0 q1) fun w1 =>
 some (A.cmp BinOp.geq w1 0)
noncomputable def block_value_1 (A : Ar) (x0 : Int) : Option Bool :=
 some (A.or (A.or (A.cmp BinOp.lss x0 32) (A.cmp BinOp.gtr x0 126)) (A.cmp BinOp.eql x0 59))
noncomputable def block_value (A : Ar) (x0 : ByteArray) : Option Bool :=
 bd (gd ByteArray.empty (A.and (A.scmp BinOp.neq x0 (ByteArray.mk (Array.mk []))) (A.cmp BinOp.leq (A.slen x0) 200)) (strings_Trim A x0 (ByteArray.mk (Array.mk [32])))) fun w1 =>
 bd (gd false (A.and (A.and (A.scmp BinOp.neq x0 (ByteArray.mk (Array.mk []))) (A.cmp BinOp.leq (A.slen x0) 200)) (A.scmp BinOp.eql w1 x0)) (slices_ContainsFunc_byte_byte A (A.s2b x0) fun y0 => block_value_1 A y0)) fun w2 =>
 some (A.and (A.and (A.and (A.scmp BinOp.neq x0 (ByteArray.mk (Array.mk []))) (A.cmp BinOp.leq (A.slen x0) 200)) (A.scmp BinOp.eql w1 x0)) (A.not w2))
noncomputable def block_may_1 (A : Ar) (x0 : ByteArray) : Option Bool :=
 bd (block_value A x0) fun w1 =>
 some (A.not w1)
noncomputable def block_may_B1 (A : Ar) (x0 : Def) : Int → Option (Int ⊕ Bool)
 | t8 =>
  br (A.cmp BinOp.lss t8 (A.len TyS.str x0.2)) (
   ck (A.inb t8 (A.len TyS.str x0.2)) <|
   bd (block_word A (A.get TyS.str x0.2 t8)) fun w2 =>
   ck (vc (A.not (A.not w2)) (A.subOk 0 t8 (A.len TyS.str x0.2))) <|
   bd (gd false (A.not (A.not w2)) (slices_Contains_string_string A (A.lsub TyS.str x0.2 0 t8) (A.get TyS.str x0.2 t8))) fun w4 =>
   br (A.or (A.not w2) w4) (
    rt (
     some false
    )
   ) (
    some (.inl (A.ar BinOp.add IntKind.i64 t8 1))
   )
  ) (
   rt (
    bd (block_word A x0.1) fun w5 =>
    bd (gd false (A.and (A.and w5 (A.cmp BinOp.leq (A.len TyS.str x0.2) 64)) (A.cmp BinOp.eql (A.len TyS.str x0.2) (A.len TyS.str x0.3))) (slices_ContainsFunc_string_string A x0.3 fun y0 => block_may_1 A y0)) fun w6 =>
    some (A.and (A.and (A.and w5 (A.cmp BinOp.leq (A.len TyS.str x0.2) 64)) (A.cmp BinOp.eql (A.len TyS.str x0.2) (A.len TyS.str x0.3))) (A.not w6))
   )
  )
noncomputable def block_may (A : Ar) (x0 : Def) : Option Bool :=
 Loop (block_may_B1 A x0) 0
noncomputable def block_Right_1 (A : Ar) (x0 : Def) : Option Bool :=
 bd (block_may A x0) fun w1 =>
 some (A.not w1)
noncomputable def block_Right (A : Ar) (x0 : List Def) : Option Bool :=
 bd (gd false (A.cmp BinOp.leq (A.len TyS.dfn x0) 64) (slices_ContainsFunc_Def_Def A x0 fun y0 => block_Right_1 A y0)) fun w1 =>
 some (A.and (A.cmp BinOp.leq (A.len TyS.dfn x0) 64) (A.not w1))
noncomputable def rules_word (A : Ar) (x0 : ByteArray) : Option Bool :=
 bd (block_Right A [Def.mk x0 [] []]) fun w1 =>
 some w1
noncomputable def rules_time (A : Ar) (x0 : Int) : Option Bool :=
 some (A.and (A.cmp BinOp.geq x0 0) (A.cmp BinOp.leq x0 1099511627776))
noncomputable def label_letter (A : Ar) (x0 : Int) : Option Bool :=
 some (A.or (A.or (A.and (A.cmp BinOp.geq x0 97) (A.cmp BinOp.leq x0 122)) (A.and (A.cmp BinOp.geq x0 65) (A.cmp BinOp.leq x0 90))) (A.cmp BinOp.eql x0 95))
noncomputable def label_name_B1 (A : Ar) (x0 : ByteArray) : Bool × Int → Option ((Bool × Int) ⊕ Bool)
 | (t2, t7) =>
  br (A.cmp BinOp.lss t7 (A.slen x0)) (
   ck (A.inb t7 (A.slen x0)) <|
   bd (label_letter A (A.sget x0 t7)) fun w2 =>
   br (A.and (A.not w2) (A.or (A.or (A.cmp BinOp.eql t7 0) (A.cmp BinOp.lss (A.sget x0 t7) 48)) (A.cmp BinOp.gtr (A.sget x0 t7) 57))) (
    rt (
     some false
    )
   ) (
    some (.inl ((t2, A.ar BinOp.add IntKind.i64 t7 1)))
   )
  ) (
   rt (
    some (A.and (A.scmp BinOp.neq x0 (ByteArray.mk (Array.mk []))) (A.cmp BinOp.leq (A.slen x0) 64))
   )
  )
noncomputable def label_name (A : Ar) (x0 : ByteArray) : Option Bool :=
 Loop (label_name_B1 A x0) ((false, 0))
noncomputable def label_value_1 (A : Ar) (x0 : Int) : Option Bool :=
 some (A.or (A.cmp BinOp.lss x0 32) (A.cmp BinOp.gtr x0 126))
noncomputable def label_value (A : Ar) (x0 : ByteArray) : Option Bool :=
 bd (gd false (A.and (A.scmp BinOp.neq x0 (ByteArray.mk (Array.mk []))) (A.cmp BinOp.leq (A.slen x0) 64)) (slices_ContainsFunc_byte_byte A (A.s2b x0) fun y0 => label_value_1 A y0)) fun w1 =>
 some (A.and (A.and (A.scmp BinOp.neq x0 (ByteArray.mk (Array.mk []))) (A.cmp BinOp.leq (A.slen x0) 64)) (A.not w1))
noncomputable def label_may (A : Ar) (x0 : Label) : Option Bool :=
 bd (label_name A x0.1) fun w1 =>
 bd (gd false (w1) (label_value A x0.2)) fun w2 =>
 some (A.and w1 w2)
noncomputable def label_Right_B1 (A : Ar) (x0 : List Label) : Int → Option (Int ⊕ Bool)
 | t7 =>
  br (A.cmp BinOp.lss t7 (A.len TyS.label x0)) (
   ck (A.inb t7 (A.len TyS.label x0)) <|
   bd (label_may A (A.get TyS.label x0 t7)) fun w2 =>
   ck (vc (A.and (A.not (A.not w2)) (A.cmp BinOp.gtr t7 0)) (A.inb (A.ar BinOp.sub IntKind.i64 t7 1) (A.len TyS.label x0))) <|
   br (A.or (A.not w2) (A.and (A.cmp BinOp.gtr t7 0) (A.scmp BinOp.geq (A.get TyS.label x0 (A.ar BinOp.sub IntKind.i64 t7 1)).1 (A.get TyS.label x0 t7).1))) (
    rt (
     some false
    )
   ) (
    some (.inl (A.ar BinOp.add IntKind.i64 t7 1))
   )
  ) (
   rt (
    some (A.cmp BinOp.leq (A.len TyS.label x0) 8)
   )
  )
noncomputable def label_Right (A : Ar) (x0 : List Label) : Option Bool :=
 Loop (label_Right_B1 A x0) 0
noncomputable def label_Get_1 (A : Ar) (x0 : Label) (c0 : ByteArray) : Option Bool :=
 some (A.scmp BinOp.eql x0.1 c0)
noncomputable def slices_IndexFunc_Label_Label_B1 (A : Ar) (x0 : List Label) (q1 : Label → Option Bool) : Int → Option (Int ⊕ Int)
 | t8 =>
  br (A.cmp BinOp.lss t8 (A.len TyS.label x0)) (
   ck (A.inb t8 (A.len TyS.label x0)) <|
   bd (q1 (A.get TyS.label x0 t8)) fun w2 =>
   br (w2) (
    rt (
     some t8
    )
   ) (
    some (.inl (A.ar BinOp.add IntKind.i64 t8 1))
   )
  ) (
   rt (
    some (-1)
   )
  )
noncomputable def slices_IndexFunc_Label_Label (A : Ar) (x0 : List Label) (q1 : Label → Option Bool) : Option Int :=
 Loop (slices_IndexFunc_Label_Label_B1 A x0 q1) 0
noncomputable def label_Get (A : Ar) (x0 : List Label) (x1 : ByteArray) : Option ByteArray :=
 bd (slices_IndexFunc_Label_Label A x0 fun y0 => label_Get_1 A y0 x1) fun w1 =>
 br (A.cmp BinOp.lss w1 0) (
  some (ByteArray.mk (Array.mk []))
 ) (
  ck (A.inb w1 (A.len TyS.label x0)) <|
  some ((A.get TyS.label x0 w1).2)
 )
noncomputable def rules_Right (A : Ar) (x0 : Rule) : Option Bool :=
 bd (rules_word A x0.1) fun w1 =>
 bd (gd false (w1) (rules_word A x0.2)) fun w2 =>
 bd (rules_time A x0.5) fun w3 =>
 bd (gd false (w3) (rules_time A x0.6)) fun w4 =>
 bd (gd false (A.and (A.and (A.and (A.and (A.and (A.and (A.and w1 w2) (A.cmp BinOp.geq x0.3 1)) (A.cmp BinOp.leq x0.3 5)) (A.and (A.and (A.and w3 w4) (A.cmp BinOp.geq x0.7 1)) (A.cmp BinOp.leq x0.7 10))) (A.cmp BinOp.geq x0.4 (-1099511627776))) (A.cmp BinOp.leq x0.4 1099511627776)) (A.cmp BinOp.leq (A.len TyS.label x0.8) 4)) (label_Right A x0.8)) fun w5 =>
 bd (gd ByteArray.empty (A.and (A.and (A.and (A.and (A.and (A.and (A.and (A.and w1 w2) (A.cmp BinOp.geq x0.3 1)) (A.cmp BinOp.leq x0.3 5)) (A.and (A.and (A.and w3 w4) (A.cmp BinOp.geq x0.7 1)) (A.cmp BinOp.leq x0.7 10))) (A.cmp BinOp.geq x0.4 (-1099511627776))) (A.cmp BinOp.leq x0.4 1099511627776)) (A.cmp BinOp.leq (A.len TyS.label x0.8) 4)) w5) (label_Get A x0.8 (ByteArray.mk (Array.mk [97, 108, 101, 114, 116])))) fun w6 =>
 some (A.and (A.and (A.and (A.and (A.and (A.and (A.and (A.and (A.and w1 w2) (A.cmp BinOp.geq x0.3 1)) (A.cmp BinOp.leq x0.3 5)) (A.and (A.and (A.and w3 w4) (A.cmp BinOp.geq x0.7 1)) (A.cmp BinOp.leq x0.7 10))) (A.cmp BinOp.geq x0.4 (-1099511627776))) (A.cmp BinOp.leq x0.4 1099511627776)) (A.cmp BinOp.leq (A.len TyS.label x0.8) 4)) w5) (A.scmp BinOp.eql w6 (ByteArray.mk (Array.mk []))))
noncomputable def config_all_string_1 (A : Ar) (x0 : ByteArray) (qc0 : ByteArray → Option Bool) : Option Bool :=
 bd (qc0 x0) fun w1 =>
 some (A.not w1)
noncomputable def config_all_string (A : Ar) (x0 : List ByteArray) (x1 : Int) (q2 : ByteArray → Option Bool) : Option Bool :=
 bd (gd false (A.cmp BinOp.leq (A.len TyS.str x0) x1) (slices_ContainsFunc_string_string A x0 fun y0 => config_all_string_1 A y0 q2)) fun w1 =>
 some (A.and (A.cmp BinOp.leq (A.len TyS.str x0) x1) (A.not w1))
noncomputable def config_word (A : Ar) (x0 : ByteArray) : Option Bool :=
 bd (block_Right A [Def.mk x0 [] []]) fun w1 =>
 some w1
noncomputable def config_all_Inhibit_1 (A : Ar) (x0 : Inhibit) (qc0 : Inhibit → Option Bool) : Option Bool :=
 bd (qc0 x0) fun w1 =>
 some (A.not w1)
noncomputable def slices_IndexFunc_Inhibit_Inhibit_B1 (A : Ar) (x0 : List Inhibit) (q1 : Inhibit → Option Bool) : Int → Option (Int ⊕ Int)
 | t8 =>
  br (A.cmp BinOp.lss t8 (A.len TyS.inhibit x0)) (
   ck (A.inb t8 (A.len TyS.inhibit x0)) <|
   bd (q1 (A.get TyS.inhibit x0 t8)) fun w2 =>
   br (w2) (
    rt (
     some t8
    )
   ) (
    some (.inl (A.ar BinOp.add IntKind.i64 t8 1))
   )
  ) (
   rt (
    some (-1)
   )
  )
noncomputable def slices_IndexFunc_Inhibit_Inhibit (A : Ar) (x0 : List Inhibit) (q1 : Inhibit → Option Bool) : Option Int :=
 Loop (slices_IndexFunc_Inhibit_Inhibit_B1 A x0 q1) 0
noncomputable def slices_ContainsFunc_Inhibit_Inhibit (A : Ar) (x0 : List Inhibit) (q1 : Inhibit → Option Bool) : Option Bool :=
 bd (slices_IndexFunc_Inhibit_Inhibit A x0 q1) fun w1 =>
 some (A.cmp BinOp.geq w1 0)
noncomputable def config_all_Inhibit (A : Ar) (x0 : List Inhibit) (x1 : Int) (q2 : Inhibit → Option Bool) : Option Bool :=
 bd (gd false (A.cmp BinOp.leq (A.len TyS.inhibit x0) x1) (slices_ContainsFunc_Inhibit_Inhibit A x0 fun y0 => config_all_Inhibit_1 A y0 q2)) fun w1 =>
 some (A.and (A.cmp BinOp.leq (A.len TyS.inhibit x0) x1) (A.not w1))
noncomputable def config_all_Matcher_1 (A : Ar) (x0 : Matcher) (qc0 : Matcher → Option Bool) : Option Bool :=
 bd (qc0 x0) fun w1 =>
 some (A.not w1)
noncomputable def slices_IndexFunc_Matcher_Matcher_B1 (A : Ar) (x0 : List Matcher) (q1 : Matcher → Option Bool) : Int → Option (Int ⊕ Int)
 | t8 =>
  br (A.cmp BinOp.lss t8 (A.len TyS.matcher x0)) (
   ck (A.inb t8 (A.len TyS.matcher x0)) <|
   bd (q1 (A.get TyS.matcher x0 t8)) fun w2 =>
   br (w2) (
    rt (
     some t8
    )
   ) (
    some (.inl (A.ar BinOp.add IntKind.i64 t8 1))
   )
  ) (
   rt (
    some (-1)
   )
  )
noncomputable def slices_IndexFunc_Matcher_Matcher (A : Ar) (x0 : List Matcher) (q1 : Matcher → Option Bool) : Option Int :=
 Loop (slices_IndexFunc_Matcher_Matcher_B1 A x0 q1) 0
noncomputable def slices_ContainsFunc_Matcher_Matcher (A : Ar) (x0 : List Matcher) (q1 : Matcher → Option Bool) : Option Bool :=
 bd (slices_IndexFunc_Matcher_Matcher A x0 q1) fun w1 =>
 some (A.cmp BinOp.geq w1 0)
noncomputable def config_all_Matcher (A : Ar) (x0 : List Matcher) (x1 : Int) (q2 : Matcher → Option Bool) : Option Bool :=
 bd (gd false (A.cmp BinOp.leq (A.len TyS.matcher x0) x1) (slices_ContainsFunc_Matcher_Matcher A x0 fun y0 => config_all_Matcher_1 A y0 q2)) fun w1 =>
 some (A.and (A.cmp BinOp.leq (A.len TyS.matcher x0) x1) (A.not w1))
noncomputable def matcher_plain (A : Ar) (x0 : Int) : Option Bool :=
 bd (gd 0 (A.not (A.or (A.or (A.and (A.cmp BinOp.geq x0 97) (A.cmp BinOp.leq x0 122)) (A.and (A.cmp BinOp.geq x0 65) (A.cmp BinOp.leq x0 90))) (A.and (A.cmp BinOp.geq x0 48) (A.cmp BinOp.leq x0 57)))) (strings_IndexByte A (ByteArray.mk (Array.mk [95, 45, 46, 47, 58])) x0)) fun w1 =>
 some (A.or (A.or (A.or (A.and (A.cmp BinOp.geq x0 97) (A.cmp BinOp.leq x0 122)) (A.and (A.cmp BinOp.geq x0 65) (A.cmp BinOp.leq x0 90))) (A.and (A.cmp BinOp.geq x0 48) (A.cmp BinOp.leq x0 57))) (A.cmp BinOp.geq w1 0))
noncomputable def matcher_word_1 (A : Ar) (x0 : Int) : Option Bool :=
 bd (matcher_plain A x0) fun w1 =>
 some (A.not w1)
noncomputable def matcher_word (A : Ar) (x0 : ByteArray) : Option Bool :=
 bd (gd false (A.cmp BinOp.leq (A.slen x0) 64) (slices_ContainsFunc_byte_byte A (A.s2b x0) fun y0 => matcher_word_1 A y0)) fun w1 =>
 some (A.and (A.cmp BinOp.leq (A.slen x0) 64) (A.not w1))
noncomputable def matcher_signs (A : Ar) : Option Unit :=
 some ()
noncomputable def matcher_Right_B1 (A : Ar) (x0 : Matcher) : Int → Option (Int ⊕ Bool)
 | t14 =>
  br (A.cmp BinOp.lss t14 (A.len TyS.str x0.3)) (
   ck (A.inb t14 (A.len TyS.str x0.3)) <|
   bd (matcher_word A (A.get TyS.str x0.3 t14)) fun w2 =>
   ck (vc (A.and (A.not (A.not w2)) (A.cmp BinOp.gtr t14 0)) (A.inb (A.ar BinOp.sub IntKind.i64 t14 1) (A.len TyS.str x0.3))) <|
   br (A.or (A.not w2) (A.and (A.cmp BinOp.gtr t14 0) (A.scmp BinOp.geq (A.get TyS.str x0.3 (A.ar BinOp.sub IntKind.i64 t14 1)) (A.get TyS.str x0.3 t14)))) (
    rt (
     some false
    )
   ) (
    some (.inl (A.ar BinOp.add IntKind.i64 t14 1))
   )
  ) (
   rt (
    bd (matcher_signs A) fun w4 =>
    bd (some (lookI A x0.2 [(1, ByteArray.mk (Array.mk [61])), (2, ByteArray.mk (Array.mk [33, 61])), (3, ByteArray.mk (Array.mk [61, 126])), (4, ByteArray.mk (Array.mk [33, 126]))] (ByteArray.mk (Array.mk [])))) fun w5 =>
    bd (gd false (w5.2) (label_Right A [Label.mk x0.1 (ByteArray.mk (Array.mk [120]))])) fun w6 =>
    some (A.and (A.and (A.and w5.2 w6) (A.cmp BinOp.geq (A.len TyS.str x0.3) 1)) (A.cmp BinOp.leq (A.len TyS.str x0.3) 8))
   )
  )
noncomputable def matcher_Right_B2 (A : Ar) (x0 : Matcher) : Int → Option (Int ⊕ Bool)
 | t14 =>
  br (A.cmp BinOp.lss t14 (A.len TyS.str x0.3)) (
   ck (A.inb t14 (A.len TyS.str x0.3)) <|
   bd (matcher_word A (A.get TyS.str x0.3 t14)) fun w8 =>
   ck (vc (A.and (A.not (A.not w8)) (A.cmp BinOp.gtr t14 0)) (A.inb (A.ar BinOp.sub IntKind.i64 t14 1) (A.len TyS.str x0.3))) <|
   br (A.or (A.not w8) (A.and (A.cmp BinOp.gtr t14 0) (A.scmp BinOp.geq (A.get TyS.str x0.3 (A.ar BinOp.sub IntKind.i64 t14 1)) (A.get TyS.str x0.3 t14)))) (
    rt (
     some false
    )
   ) (
    some (.inl (A.ar BinOp.add IntKind.i64 t14 1))
   )
  ) (
   rt (
    bd (matcher_signs A) fun w10 =>
    bd (some (lookI A x0.2 [(1, ByteArray.mk (Array.mk [61])), (2, ByteArray.mk (Array.mk [33, 61])), (3, ByteArray.mk (Array.mk [61, 126])), (4, ByteArray.mk (Array.mk [33, 126]))] (ByteArray.mk (Array.mk [])))) fun w11 =>
    bd (gd false (w11.2) (label_Right A [Label.mk x0.1 (ByteArray.mk (Array.mk [120]))])) fun w12 =>
    some (A.and (A.and (A.and w11.2 w12) (A.cmp BinOp.geq (A.len TyS.str x0.3) 1)) (A.cmp BinOp.leq (A.len TyS.str x0.3) 1))
   )
  )
noncomputable def matcher_Right (A : Ar) (x0 : Matcher) : Option Bool :=
 br (A.cmp BinOp.gtr x0.2 2) (
  Loop (matcher_Right_B1 A x0) 0
 ) (
  Loop (matcher_Right_B2 A x0) 0
 )
noncomputable def config_inhibits_B1 (A : Ar) (x0 : Inhibit) : Int → Option (Int ⊕ Bool)
 | t9 =>
  br (A.cmp BinOp.lss t9 (A.len TyS.str x0.3)) (
   ck (A.inb t9 (A.len TyS.str x0.3)) <|
   bd (label_Right A [Label.mk (A.get TyS.str x0.3 t9) (ByteArray.mk (Array.mk [120]))]) fun w2 =>
   ck (vc (A.and (A.not (A.not w2)) (A.cmp BinOp.gtr t9 0)) (A.inb (A.ar BinOp.sub IntKind.i64 t9 1) (A.len TyS.str x0.3))) <|
   br (A.or (A.not w2) (A.and (A.cmp BinOp.gtr t9 0) (A.scmp BinOp.geq (A.get TyS.str x0.3 (A.ar BinOp.sub IntKind.i64 t9 1)) (A.get TyS.str x0.3 t9)))) (
    rt (
     some false
    )
   ) (
    some (.inl (A.ar BinOp.add IntKind.i64 t9 1))
   )
  ) (
   rt (
    bd (gd false (A.and (A.and (A.cmp BinOp.gtr (A.len TyS.matcher x0.1) 0) (A.cmp BinOp.gtr (A.len TyS.matcher x0.2) 0)) (A.cmp BinOp.leq (A.len TyS.str x0.3) 8)) (config_all_Matcher A x0.1 8 fun y0 => matcher_Right A y0)) fun w4 =>
    bd (gd false (A.and (A.and (A.and (A.cmp BinOp.gtr (A.len TyS.matcher x0.1) 0) (A.cmp BinOp.gtr (A.len TyS.matcher x0.2) 0)) (A.cmp BinOp.leq (A.len TyS.str x0.3) 8)) w4) (config_all_Matcher A x0.2 8 fun y0 => matcher_Right A y0)) fun w5 =>
    some (A.and (A.and (A.and (A.and (A.cmp BinOp.gtr (A.len TyS.matcher x0.1) 0) (A.cmp BinOp.gtr (A.len TyS.matcher x0.2) 0)) (A.cmp BinOp.leq (A.len TyS.str x0.3) 8)) w4) w5)
   )
  )
noncomputable def config_inhibits (A : Ar) (x0 : Inhibit) : Option Bool :=
 Loop (config_inhibits_B1 A x0) 0
noncomputable def config_all_Hours_1 (A : Ar) (x0 : Hours) (qc0 : Hours → Option Bool) : Option Bool :=
 bd (qc0 x0) fun w1 =>
 some (A.not w1)
noncomputable def slices_IndexFunc_Hours_Hours_B1 (A : Ar) (x0 : List Hours) (q1 : Hours → Option Bool) : Int → Option (Int ⊕ Int)
 | t8 =>
  br (A.cmp BinOp.lss t8 (A.len TyS.hours x0)) (
   ck (A.inb t8 (A.len TyS.hours x0)) <|
   bd (q1 (A.get TyS.hours x0 t8)) fun w2 =>
   br (w2) (
    rt (
     some t8
    )
   ) (
    some (.inl (A.ar BinOp.add IntKind.i64 t8 1))
   )
  ) (
   rt (
    some (-1)
   )
  )
noncomputable def slices_IndexFunc_Hours_Hours (A : Ar) (x0 : List Hours) (q1 : Hours → Option Bool) : Option Int :=
 Loop (slices_IndexFunc_Hours_Hours_B1 A x0 q1) 0
noncomputable def slices_ContainsFunc_Hours_Hours (A : Ar) (x0 : List Hours) (q1 : Hours → Option Bool) : Option Bool :=
 bd (slices_IndexFunc_Hours_Hours A x0 q1) fun w1 =>
 some (A.cmp BinOp.geq w1 0)
noncomputable def config_all_Hours (A : Ar) (x0 : List Hours) (x1 : Int) (q2 : Hours → Option Bool) : Option Bool :=
 bd (gd false (A.cmp BinOp.leq (A.len TyS.hours x0) x1) (slices_ContainsFunc_Hours_Hours A x0 fun y0 => config_all_Hours_1 A y0 q2)) fun w1 =>
 some (A.and (A.cmp BinOp.leq (A.len TyS.hours x0) x1) (A.not w1))
noncomputable def hours_Right_1 (A : Ar) (x0 : Int) : Option Bool :=
 some (A.and (A.and (A.or (A.cmp BinOp.lss x0 97) (A.cmp BinOp.gtr x0 122)) (A.or (A.cmp BinOp.lss x0 48) (A.cmp BinOp.gtr x0 57))) (A.cmp BinOp.neq x0 95))
noncomputable def hours_Right (A : Ar) (x0 : Hours) : Option Bool :=
 bd (gd false (A.and (A.scmp BinOp.neq x0.1 (ByteArray.mk (Array.mk []))) (A.cmp BinOp.leq (A.slen x0.1) 64)) (slices_ContainsFunc_byte_byte A (A.s2b x0.1) fun y0 => hours_Right_1 A y0)) fun w1 =>
 some (A.and (A.and (A.and (A.and (A.and (A.and (A.and (A.and (A.scmp BinOp.neq x0.1 (ByteArray.mk (Array.mk []))) (A.cmp BinOp.leq (A.slen x0.1) 64)) (A.not w1)) (A.cmp BinOp.geq x0.2 1)) (A.cmp BinOp.leq x0.2 127)) (A.cmp BinOp.geq x0.3 0)) (A.cmp BinOp.lss x0.3 1440)) (A.cmp BinOp.gtr x0.4 x0.3)) (A.cmp BinOp.leq x0.4 1440))
noncomputable def config_unique_Rule_B1 (A : Ar) (x0 : List Rule) (q1 : Rule → Option ByteArray) : Int × (List (ByteArray × Bool)) → Option ((Int × (List (ByteArray × Bool))) ⊕ Bool)
 | (t11, map8) =>
  br (A.cmp BinOp.lss t11 (A.len TyS.rule x0)) (
   ck (A.inb t11 (A.len TyS.rule x0)) <|
   bd (q1 (A.get TyS.rule x0 t11)) fun w2 =>
   bd (some (lookS A w2 map8 false)) fun w3 =>
   br (w3.1) (
    rt (
     some false
    )
   ) (
    bd (q1 (A.get TyS.rule x0 t11)) fun w4 =>
    ck (FreshK A true (Value.string w4) (A.mesB map8)) <|
    some (.inl ((A.ar BinOp.add IntKind.i64 t11 1, map8 ++ [(w4, true)])))
   )
  ) (
   rt (
    some true
   )
  )
noncomputable def config_unique_Rule (A : Ar) (x0 : List Rule) (q1 : Rule → Option ByteArray) : Option Bool :=
 Loop (config_unique_Rule_B1 A x0 q1) ((0, []))
noncomputable def config_ruled (A : Ar) (x0 : Rule) : Option ByteArray :=
 some x0.1
noncomputable def config_unique_string_B1 (A : Ar) (x0 : List ByteArray) (q1 : ByteArray → Option ByteArray) : Int × (List (ByteArray × Bool)) → Option ((Int × (List (ByteArray × Bool))) ⊕ Bool)
 | (t11, map8) =>
  br (A.cmp BinOp.lss t11 (A.len TyS.str x0)) (
   ck (A.inb t11 (A.len TyS.str x0)) <|
   bd (q1 (A.get TyS.str x0 t11)) fun w2 =>
   bd (some (lookS A w2 map8 false)) fun w3 =>
   br (w3.1) (
    rt (
     some false
    )
   ) (
    bd (q1 (A.get TyS.str x0 t11)) fun w4 =>
    ck (FreshK A true (Value.string w4) (A.mesB map8)) <|
    some (.inl ((A.ar BinOp.add IntKind.i64 t11 1, map8 ++ [(w4, true)])))
   )
  ) (
   rt (
    some true
   )
  )
noncomputable def config_unique_string (A : Ar) (x0 : List ByteArray) (q1 : ByteArray → Option ByteArray) : Option Bool :=
 Loop (config_unique_string_B1 A x0 q1) ((0, []))
noncomputable def config_itself (A : Ar) (x0 : ByteArray) : Option ByteArray :=
 some x0
noncomputable def config_unique_Hours_B1 (A : Ar) (x0 : List Hours) (q1 : Hours → Option ByteArray) : Int × (List (ByteArray × Bool)) → Option ((Int × (List (ByteArray × Bool))) ⊕ Bool)
 | (t11, map8) =>
  br (A.cmp BinOp.lss t11 (A.len TyS.hours x0)) (
   ck (A.inb t11 (A.len TyS.hours x0)) <|
   bd (q1 (A.get TyS.hours x0 t11)) fun w2 =>
   bd (some (lookS A w2 map8 false)) fun w3 =>
   br (w3.1) (
    rt (
     some false
    )
   ) (
    bd (q1 (A.get TyS.hours x0 t11)) fun w4 =>
    ck (FreshK A true (Value.string w4) (A.mesB map8)) <|
    some (.inl ((A.ar BinOp.add IntKind.i64 t11 1, map8 ++ [(w4, true)])))
   )
  ) (
   rt (
    some true
   )
  )
noncomputable def config_unique_Hours (A : Ar) (x0 : List Hours) (q1 : Hours → Option ByteArray) : Option Bool :=
 Loop (config_unique_Hours_B1 A x0 q1) ((0, []))
noncomputable def config_houred (A : Ar) (x0 : Hours) : Option ByteArray :=
 some x0.1
noncomputable def routes_may_1 (A : Ar) (x0 : Matcher) : Option Bool :=
 bd (matcher_Right A x0) fun w1 =>
 some (A.not w1)
noncomputable def routes_word (A : Ar) (x0 : ByteArray) : Option Bool :=
 bd (block_Right A [Def.mk x0 [] []]) fun w1 =>
 some w1
noncomputable def routes_ordered_B1 (A : Ar) (x0 : List ByteArray) (q1 : ByteArray → Option Bool) : Bool × Int → Option ((Bool × Int) ⊕ Bool)
 | (t4, t9) =>
  br (A.cmp BinOp.lss t9 (A.len TyS.str x0)) (
   ck (A.inb t9 (A.len TyS.str x0)) <|
   bd (q1 (A.get TyS.str x0 t9)) fun w2 =>
   ck (vc (A.and (A.not (A.not w2)) (A.cmp BinOp.gtr t9 0)) (A.inb (A.ar BinOp.sub IntKind.i64 t9 1) (A.len TyS.str x0))) <|
   br (A.or (A.not w2) (A.and (A.cmp BinOp.gtr t9 0) (A.scmp BinOp.geq (A.get TyS.str x0 (A.ar BinOp.sub IntKind.i64 t9 1)) (A.get TyS.str x0 t9)))) (
    rt (
     some false
    )
   ) (
    some (.inl ((t4, A.ar BinOp.add IntKind.i64 t9 1)))
   )
  ) (
   rt (
    some (A.cmp BinOp.leq (A.len TyS.str x0) 8)
   )
  )
noncomputable def routes_ordered (A : Ar) (x0 : List ByteArray) (q1 : ByteArray → Option Bool) : Option Bool :=
 Loop (routes_ordered_B1 A x0 q1) ((false, 0))
noncomputable def routes_name (A : Ar) (x0 : ByteArray) : Option Bool :=
 bd (label_Right A [Label.mk x0 (ByteArray.mk (Array.mk [120]))]) fun w1 =>
 some w1
noncomputable def routes_times_1 (A : Ar) (x0 : Int) (c0 : Int) : Option Bool :=
 some (A.or (A.cmp BinOp.lss x0 c0) (A.cmp BinOp.gtr x0 1099511627776))
noncomputable def slices_IndexFunc_int_int_B1 (A : Ar) (x0 : List Int) (q1 : Int → Option Bool) : Int → Option (Int ⊕ Int)
 | t8 =>
  br (A.cmp BinOp.lss t8 (A.len TyS.int x0)) (
   ck (A.inb t8 (A.len TyS.int x0)) <|
   bd (q1 (A.get TyS.int x0 t8)) fun w2 =>
   br (w2) (
    rt (
     some t8
    )
   ) (
    some (.inl (A.ar BinOp.add IntKind.i64 t8 1))
   )
  ) (
   rt (
    some (-1)
   )
  )
noncomputable def slices_IndexFunc_int_int (A : Ar) (x0 : List Int) (q1 : Int → Option Bool) : Option Int :=
 Loop (slices_IndexFunc_int_int_B1 A x0 q1) 0
noncomputable def slices_ContainsFunc_int_int (A : Ar) (x0 : List Int) (q1 : Int → Option Bool) : Option Bool :=
 bd (slices_IndexFunc_int_int A x0 q1) fun w1 =>
 some (A.cmp BinOp.geq w1 0)
noncomputable def routes_times (A : Ar) (x0 : Int) (x1 : List Int) : Option Bool :=
 bd (slices_ContainsFunc_int_int A x1 fun y0 => routes_times_1 A y0 x0) fun w1 =>
 some (A.not w1)
noncomputable def slices_IndexFunc_Route_Route_B1 (A : Ar) (x0 : List Route) (q1 : Route → Option Bool) : Int → Option (Int ⊕ Int)
 | t8 =>
  br (A.cmp BinOp.lss t8 (A.len TyS.route x0)) (
   ck (A.inb t8 (A.len TyS.route x0)) <|
   bd (q1 (A.get TyS.route x0 t8)) fun w2 =>
   br (w2) (
    rt (
     some t8
    )
   ) (
    some (.inl (A.ar BinOp.add IntKind.i64 t8 1))
   )
  ) (
   rt (
    some (-1)
   )
  )
noncomputable def slices_IndexFunc_Route_Route (A : Ar) (x0 : List Route) (q1 : Route → Option Bool) : Option Int :=
 Loop (slices_IndexFunc_Route_Route_B1 A x0 q1) 0
noncomputable def slices_ContainsFunc_Route_Route (A : Ar) (x0 : List Route) (q1 : Route → Option Bool) : Option Bool :=
 bd (slices_IndexFunc_Route_Route A x0 q1) fun w1 =>
 some (A.cmp BinOp.geq w1 0)
noncomputable def routes_may_2 (A : Ar) (rf : Route → Int → Option Bool) (x0 : Route) (c0 : Int) : Option Bool :=
 bd (rf x0 (A.ar BinOp.sub IntKind.i64 c0 1)) fun w1 =>
 some (A.not w1)
noncomputable def routes_may_S (A : Ar) (rf : Route → Int → Option Bool) (x0 : Route) (x1 : Int) : Option Bool :=
 bd (gd false (A.not (A.cmp BinOp.eql x1 0)) (routes_word A x0.1)) fun w1 =>
 bd (gd false (A.not (A.or (A.or (A.cmp BinOp.eql x1 0) (A.not w1)) (A.cmp BinOp.gtr (A.len TyS.matcher x0.2) 8))) (slices_ContainsFunc_Matcher_Matcher A x0.2 fun y0 => routes_may_1 A y0)) fun w2 =>
 br (A.or (A.or (A.or (A.or (A.cmp BinOp.eql x1 0) (A.not w1)) (A.cmp BinOp.gtr (A.len TyS.matcher x0.2) 8)) w2) (A.cmp BinOp.gtr (A.len TyS.route x0.9) 16)) (
  some false
 ) (
  bd (routes_ordered A x0.3 fun y0 => routes_name A y0) fun w3 =>
  bd (gd false (A.not (A.not w3)) (routes_ordered A x0.7 fun y0 => routes_word A y0)) fun w4 =>
  bd (gd false (A.not (A.or (A.not w3) (A.not w4))) (routes_times A 0 [x0.4])) fun w5 =>
  bd (gd false (A.not (A.or (A.or (A.not w3) (A.not w4)) (A.not w5))) (routes_times A 1 [x0.5, x0.6])) fun w6 =>
  br (A.or (A.or (A.or (A.not w3) (A.not w4)) (A.not w5)) (A.not w6)) (
   some false
  ) (
   bd (slices_ContainsFunc_Route_Route A x0.9 fun y0 => routes_may_2 A rf y0 x1) fun w7 =>
   some (A.not w7)
  )
 )
noncomputable def routes_may_N (A : Ar) : Nat → Route → Int → Option Bool
 | 0, _, _ => none
 | n + 1, x0, x1 => routes_may_S A (routes_may_N A n) x0 x1
noncomputable def routes_may (A : Ar) (x0 : Route) (x1 : Int) : Option Bool := routes_may_N A (SizeOf.sizeOf x0 + 1) x0 x1
noncomputable def routes_Right (A : Ar) (x0 : Route) : Option Bool :=
 bd (routes_may A x0 4) fun w1 =>
 some w1
noncomputable def routes_Count_S_B1 (A : Ar) (rf : Route → Option Int) (x0 : Route) : Int × Int → Option ((Int × Int) ⊕ Int)
 | (n3, t9) =>
  br (A.cmp BinOp.lss t9 (A.len TyS.route x0.9)) (
   ck (A.inb t9 (A.len TyS.route x0.9)) <|
   bd (rf (A.get TyS.route x0.9 t9)) fun w2 =>
   some (.inl ((A.ar BinOp.add IntKind.i64 n3 w2, A.ar BinOp.add IntKind.i64 t9 1)))
  ) (
   rt (
    some n3
   )
  )
noncomputable def routes_Count_S (A : Ar) (rf : Route → Option Int) (x0 : Route) : Option Int :=
 Loop (routes_Count_S_B1 A rf x0) ((1, 0))
noncomputable def routes_Count_N (A : Ar) : Nat → Route → Option Int
 | 0, _ => none
 | n + 1, x0 => routes_Count_S A (routes_Count_N A n) x0
noncomputable def routes_Count (A : Ar) (x0 : Route) : Option Int := routes_Count_N A (SizeOf.sizeOf x0 + 1) x0
noncomputable def routes_gather_string_1_S_B1 (A : Ar) (rf : Route → List ByteArray → Option (List ByteArray)) (x0 : Route) : Int × (List (U TyS.str)) → Option ((Int × (List (U TyS.str))) ⊕ (List ByteArray))
 | (t29, b0_1000') =>
  br (A.cmp BinOp.lss t29 (A.len TyS.route x0.9)) (
   ck (A.inb t29 (A.len TyS.route x0.9)) <|
   bd (rf (A.get TyS.route x0.9 t29) b0_1000') fun w6 =>
   some (.inl ((A.ar BinOp.add IntKind.i64 t29 1, w6)))
  ) (
   rt (
    some b0_1000'
   )
  )
noncomputable def routes_gather_string_1_S_B2 (A : Ar) (rf : Route → List ByteArray → Option (List ByteArray)) (x0 : Route) (w1 : List ByteArray) : Int × (List (U TyS.str)) → Option ((Int × (List (U TyS.str))) ⊕ (List ByteArray))
 | (t13, b0_1000) =>
  br (A.cmp BinOp.lss t13 (A.len TyS.str w1)) (
   ck (A.inb t13 (A.len TyS.str w1)) <|
   bd (slices_Contains_string_string A b0_1000 (A.get TyS.str w1 t13)) fun w3 =>
   br (A.not w3) (
    ck (A.appOk TyS.str 16 b0_1000 [A.get TyS.str w1 t13]) <|
    some (.inl ((A.ar BinOp.add IntKind.i64 t13 1, A.app TyS.str b0_1000 [A.get TyS.str w1 t13])))
   ) (
    some (.inl ((A.ar BinOp.add IntKind.i64 t13 1, b0_1000)))
   )
  ) (
   rt (
    Loop (routes_gather_string_1_S_B1 A rf x0) ((0, b0_1000))
   )
  )
noncomputable def routes_gather_string_1_S (A : Ar) (rf : Route → (List ByteArray) → Option (List ByteArray)) (x0 : Route) (qc0 : Route → Option (List ByteArray)) (c1 : List ByteArray) : Option (List ByteArray) :=
 bd (qc0 x0) fun w1 =>
 Loop (routes_gather_string_1_S_B2 A rf x0 w1) ((0, c1))
noncomputable def routes_gather_string_1_N (A : Ar) (qc0 : Route → Option (List ByteArray)) : Nat → Route → (List ByteArray) → Option (List ByteArray)
 | 0, _, _ => none
 | n + 1, x0, c1 => routes_gather_string_1_S A (routes_gather_string_1_N A qc0 n) x0 qc0 c1
noncomputable def routes_gather_string_1 (A : Ar) (x0 : Route) (qc0 : Route → Option (List ByteArray)) (c1 : List ByteArray) : Option (List ByteArray) := routes_gather_string_1_N A qc0 (SizeOf.sizeOf x0 + 1) x0 c1
noncomputable def routes_gather_string (A : Ar) (x0 : Route) (q1 : Route → Option (List ByteArray)) : Option (List ByteArray) :=
 bd (routes_gather_string_1 A x0 q1 []) fun w1 =>
 some w1
noncomputable def routes_Names_1 (A : Ar) (x0 : Route) : Option (List ByteArray) :=
 some [x0.1]
noncomputable def routes_Names_2 (A : Ar) (x0 : Route) : Option (List ByteArray) :=
 some x0.7
noncomputable def routes_Names (A : Ar) (x0 : Route) : Option ((List ByteArray) × (List ByteArray)) :=
 bd (routes_gather_string A x0 fun y0 => routes_Names_1 A y0) fun w1 =>
 bd (routes_gather_string A x0 fun y0 => routes_Names_2 A y0) fun w2 =>
 some ((w1, w2))
noncomputable def config_Right_1_1 (A : Ar) (x0 : Hours) (c0 : ByteArray) : Option Bool :=
 some (A.scmp BinOp.eql x0.1 c0)
noncomputable def config_Right_1 (A : Ar) (x0 : ByteArray) (c0 : Config) : Option Bool :=
 bd (slices_ContainsFunc_Hours_Hours A c0.5 fun y0 => config_Right_1_1 A y0 x0) fun w1 =>
 some w1
noncomputable def config_Right_2 (A : Ar) (x0 : ByteArray) (c0 : Config) : Option Bool :=
 bd (slices_Contains_string_string A c0.3 x0) fun w1 =>
 some w1
noncomputable def config_Right (A : Ar) (x0 : Config) : Option Bool :=
 bd (config_all_Rule A x0.1 16 fun y0 => rules_Right A y0) fun w1 =>
 bd (gd false (w1) (config_all_string A x0.3 16 fun y0 => config_word A y0)) fun w2 =>
 bd (gd false (A.and w1 w2) (config_all_Inhibit A x0.4 8 fun y0 => config_inhibits A y0)) fun w3 =>
 bd (gd false (A.and (A.and w1 w2) w3) (config_all_Hours A x0.5 8 fun y0 => hours_Right A y0)) fun w4 =>
 bd (gd false (A.not (A.not (A.and (A.and (A.and w1 w2) w3) w4))) (config_unique_Rule A x0.1 fun y0 => config_ruled A y0)) fun w5 =>
 bd (gd false (A.not (A.or (A.not (A.and (A.and (A.and w1 w2) w3) w4)) (A.not w5))) (config_unique_string A x0.3 fun y0 => config_itself A y0)) fun w6 =>
 bd (gd false (A.not (A.or (A.or (A.not (A.and (A.and (A.and w1 w2) w3) w4)) (A.not w5)) (A.not w6))) (config_unique_Hours A x0.5 fun y0 => config_houred A y0)) fun w7 =>
 br (A.or (A.or (A.or (A.not (A.and (A.and (A.and w1 w2) w3) w4)) (A.not w5)) (A.not w6)) (A.not w7)) (
  some false
 ) (
  bd (routes_Right A x0.2) fun w8 =>
  bd (gd 0 (A.not (A.or (A.or (A.not w8) (A.cmp BinOp.gtr (A.len TyS.matcher x0.2.2) 0)) x0.2.8)) (routes_Count A x0.2)) fun w9 =>
  br (A.or (A.or (A.or (A.not w8) (A.cmp BinOp.gtr (A.len TyS.matcher x0.2.2) 0)) x0.2.8) (A.cmp BinOp.gtr w9 32)) (
   some false
  ) (
   bd (routes_Names A x0.2) fun w10 =>
   bd (config_all_string A w10.1 32 fun y0 => config_Right_2 A y0 x0) fun w11 =>
   bd (gd false (w11) (config_all_string A w10.2 256 fun y0 => config_Right_1 A y0 x0)) fun w12 =>
   some (A.and w11 w12)
  )
 )
noncomputable def matcher_Text (A : Ar) (x0 : Matcher) : Option (ByteArray × Int) :=
 bd (matcher_Right A x0) fun w1 =>
 br (A.not w1) (
  some ((ByteArray.mk (Array.mk []), 1))
 ) (
  bd (matcher_signs A) fun w2 =>
  bd (some (lookI A x0.2 [(1, ByteArray.mk (Array.mk [61])), (2, ByteArray.mk (Array.mk [33, 61])), (3, ByteArray.mk (Array.mk [61, 126])), (4, ByteArray.mk (Array.mk [33, 126]))] (ByteArray.mk (Array.mk [])))) fun w3 =>
  ck (A.catOk x0.1 w3.1) <|
  ck (A.catOk (A.cat x0.1 w3.1) (ByteArray.mk (Array.mk [34]))) <|
  bd (strings_Join A x0.3 (ByteArray.mk (Array.mk [124]))) fun w6 =>
  ck (A.catOk (A.cat (A.cat x0.1 w3.1) (ByteArray.mk (Array.mk [34]))) w6) <|
  ck (A.catOk (A.cat (A.cat (A.cat x0.1 w3.1) (ByteArray.mk (Array.mk [34]))) w6) (ByteArray.mk (Array.mk [34]))) <|
  some ((A.cat (A.cat (A.cat (A.cat x0.1 w3.1) (ByteArray.mk (Array.mk [34]))) w6) (ByteArray.mk (Array.mk [34])), 0))
 )
noncomputable def frame_Number_B1 (A : Ar) : Int × (List (U TyS.byte)) → Option ((Int × (List (U TyS.byte))) ⊕ (ByteArray × Int))
 | (n0, out4) =>
  br (A.cmp BinOp.geq n0 128) (
   ck (A.u8ok (A.conv IntKind.u8 (A.ar BinOp.add IntKind.i64 (A.ar BinOp.rem IntKind.i64 n0 128) 128))) <|
   ck (A.appOk TyS.byte 1 out4 [A.u8 (A.conv IntKind.u8 (A.ar BinOp.add IntKind.i64 (A.ar BinOp.rem IntKind.i64 n0 128) 128))]) <|
   some (.inl ((A.ar BinOp.quo IntKind.i64 n0 128, A.app TyS.byte out4 [A.u8 (A.conv IntKind.u8 (A.ar BinOp.add IntKind.i64 (A.ar BinOp.rem IntKind.i64 n0 128) 128))])))
  ) (
   rt (
    ck (A.u8ok (A.conv IntKind.u8 n0)) <|
    ck (A.appOk TyS.byte 1 out4 [A.u8 (A.conv IntKind.u8 n0)]) <|
    some ((A.b2s (A.app TyS.byte out4 [A.u8 (A.conv IntKind.u8 n0)]), 0))
   )
  )
noncomputable def frame_Number (A : Ar) (x0 : Int) : Option (ByteArray × Int) :=
 br (A.or (A.cmp BinOp.lss x0 0) (A.cmp BinOp.geq x0 4611686018427387904)) (
  some ((ByteArray.mk (Array.mk []), 1))
 ) (
  Loop (frame_Number_B1 A) ((x0, []))
 )
noncomputable def strings_Builder_copyCheck_1 (A : Ar) (x0 : List UInt8) : Option (List UInt8) :=
 bd (abi_NoEscape A x0) fun w1 =>
 some w1
noncomputable def strings_Builder_copyCheck_2 (A : Ar) (x0 : List UInt8) : Option (List UInt8) :=
 some x0
noncomputable def strings_Builder_copyCheck (A : Ar) (x0 : List UInt8) : Option (List UInt8) := bd (strings_Builder_copyCheck_1 A x0) fun a => bd (strings_Builder_copyCheck_2 A x0) fun b => ck (a = b) <| some a
noncomputable def strings_Builder_WriteString (A : Ar) (x0 : List UInt8) (x1 : ByteArray) : Option (List UInt8) :=
 bd (strings_Builder_copyCheck A x0) fun w1 =>
 ck (A.appOk TyS.byte 1 w1 (A.s2b x1)) <|
 some (A.app TyS.byte w1 (A.s2b x1))
noncomputable def frame_Bind_B1 (A : Ar) (x0 : List ByteArray) : Int × (List (U TyS.byte)) → Option ((Int × (List (U TyS.byte))) ⊕ (ByteArray × Int))
 | (t14, b1_4) =>
  br (A.cmp BinOp.lss t14 (A.len TyS.str x0)) (
   ck (A.inb t14 (A.len TyS.str x0)) <|
   br (A.cmp BinOp.gtr (A.slen (A.get TyS.str x0 t14)) 8192) (
    rt (
     some ((ByteArray.mk (Array.mk []), 2))
    )
   ) (
    bd (frame_Number A (A.slen (A.get TyS.str x0 t14))) fun w2 =>
    bd (strings_Builder_WriteString A b1_4 w2.1) fun w3 =>
    bd (strings_Builder_WriteString A w3 (A.get TyS.str x0 t14)) fun w4 =>
    some (.inl ((A.ar BinOp.add IntKind.i64 t14 1, w4)))
   )
  ) (
   rt (
    bd (strings_Builder_String A b1_4) fun w5 =>
    some ((w5, 0))
   )
  )
noncomputable def frame_Bind (A : Ar) (x0 : List ByteArray) : Option (ByteArray × Int) :=
 br (A.cmp BinOp.gtr (A.len TyS.str x0) 512) (
  some ((ByteArray.mk (Array.mk []), 2))
 ) (
  Loop (frame_Bind_B1 A x0) ((0, []))
 )
noncomputable def config_bind (A : Ar) (x0 : Bool) (x1 : List ByteArray) : Option (ByteArray × Bool) :=
 bd (frame_Bind A x1) fun w1 =>
 some ((w1.1, A.or x0 (A.cmp BinOp.neq w1.2 0)))
noncomputable def config_matchers_B1 (A : Ar) (x0 : Bool) (x1 : List Matcher) : (List (U TyS.str)) × Int → Option (((List (U TyS.str)) × Int) ⊕ (ByteArray × Bool))
 | (out5, t12) =>
  br (A.cmp BinOp.lss t12 (A.len TyS.matcher x1)) (
   ck (A.inb t12 (A.len TyS.matcher x1)) <|
   bd (matcher_Text A (A.get TyS.matcher x1 t12)) fun w2 =>
   ck (A.appOk TyS.str 16 out5 [w2.1]) <|
   some (.inl ((A.app TyS.str out5 [w2.1], A.ar BinOp.add IntKind.i64 t12 1)))
  ) (
   rt (
    bd (config_bind A x0 out5) fun w4 =>
    some w4
   )
  )
noncomputable def config_matchers (A : Ar) (x0 : Bool) (x1 : List Matcher) : Option (ByteArray × Bool) :=
 Loop (config_matchers_B1 A x0 x1) (([], 0))
noncomputable def config_inhibit (A : Ar) (x0 : Bool) (x1 : Inhibit) : Option (ByteArray × Bool) :=
 bd (config_matchers A x0 x1.1) fun w1 =>
 bd (config_matchers A w1.2 x1.2) fun w2 =>
 bd (config_bind A w2.2 x1.3) fun w3 =>
 bd (config_bind A w3.2 [w1.1, w2.1, w3.1]) fun w4 =>
 some w4
noncomputable def config_Normal_1 (A : Ar) (x0 : Inhibit) (c0 : Bool) : Option (ByteArray × Bool) :=
 bd (config_inhibit A c0 x0) fun w1 =>
 some w1
noncomputable def slices_Clone_Rule_Rule (A : Ar) (x0 : List Rule) : Option (Int × List Rule) :=
 both (A.cmp BinOp.eql (A.len TyS.rule x0) 0) (
  some ((0, []))
 ) (
  ck (A.appOk TyS.rule 96 [] x0) <|
  some ((A.len TyS.rule (A.app TyS.rule [] x0), A.app TyS.rule [] x0))
 )
noncomputable def config_sorted_Rule_1 (A : Ar) (x0 : Rule) (x1 : Rule) (qc0 : Rule → Option ByteArray) : Option Int :=
 bd (qc0 x0) fun w1 =>
 bd (qc0 x1) fun w2 =>
 bd (strings_Compare A w1 w2) fun w3 =>
 some w3
noncomputable def slices_insertionSortCmpFunc_Rule_B1 (A : Ar) (n0 : Int) (x1 : Int) (q3 : Rule → Rule → Option Int) (i8 : Int) : Int × (List (U TyS.rule)) → Option ((Int × (List (U TyS.rule))) ⊕ (((Int × (List (U TyS.rule))) ⊕ (List Rule))))
 | (j9, row1000') =>
  ck (vc (A.cmp BinOp.gtr j9 x1) (A.inb j9 n0)) <|
  ck (vc (A.cmp BinOp.gtr j9 x1) (A.inb (A.pl 0 j9) (A.len TyS.rule row1000'))) <|
  ck (vc (A.cmp BinOp.gtr j9 x1) (A.inb (A.ar BinOp.sub IntKind.i64 j9 1) n0)) <|
  ck (vc (A.cmp BinOp.gtr j9 x1) (A.inb (A.pl 0 (A.ar BinOp.sub IntKind.i64 j9 1)) (A.len TyS.rule row1000'))) <|
  bd (gd 0 (A.cmp BinOp.gtr j9 x1) (q3 (A.get TyS.rule row1000' (A.pl 0 j9)) (A.get TyS.rule row1000' (A.pl 0 (A.ar BinOp.sub IntKind.i64 j9 1))))) fun w5 =>
  br (A.and (A.cmp BinOp.gtr j9 x1) (A.cmp BinOp.lss w5 0)) (
   ck (A.inb (A.ar BinOp.sub IntKind.i64 j9 1) n0) <|
   ck (A.inb (A.pl 0 (A.ar BinOp.sub IntKind.i64 j9 1)) (A.len TyS.rule row1000')) <|
   ck (A.inb j9 n0) <|
   ck (A.inb (A.pl 0 j9) (A.len TyS.rule row1000')) <|
   ck (A.inb (A.pl 0 (A.ar BinOp.sub IntKind.i64 j9 1)) (A.len TyS.rule (A.set TyS.rule row1000' (A.pl 0 j9) (A.get TyS.rule row1000' (A.pl 0 (A.ar BinOp.sub IntKind.i64 j9 1)))))) <|
   some (.inl ((A.ar BinOp.sub IntKind.i64 j9 1, A.set TyS.rule (A.set TyS.rule row1000' (A.pl 0 j9) (A.get TyS.rule row1000' (A.pl 0 (A.ar BinOp.sub IntKind.i64 j9 1)))) (A.pl 0 (A.ar BinOp.sub IntKind.i64 j9 1)) (A.get TyS.rule row1000' (A.pl 0 j9)))))
  ) (
   rt (
    some (.inl ((A.ar BinOp.add IntKind.i64 i8 1, row1000')))
   )
  )
noncomputable def slices_insertionSortCmpFunc_Rule_B2 (A : Ar) (n0 : Int) (x1 : Int) (x2 : Int) (q3 : Rule → Rule → Option Int) : Int × (List (U TyS.rule)) → Option ((Int × (List (U TyS.rule))) ⊕ (List Rule))
 | (i8, row1000) =>
  br (A.cmp BinOp.lss i8 x2) (
   Loop (slices_insertionSortCmpFunc_Rule_B1 A n0 x1 q3 i8) ((i8, row1000))
  ) (
   rt (
    some row1000
   )
  )
noncomputable def slices_insertionSortCmpFunc_Rule (A : Ar) (x0 : List Rule) (n0 : Int) (x1 : Int) (x2 : Int) (q3 : Rule → Rule → Option Int) : Option (List Rule) :=
 Loop (slices_insertionSortCmpFunc_Rule_B2 A n0 x1 x2 q3) ((A.ar BinOp.add IntKind.i64 x1 1, x0))
noncomputable def slices_stableCmpFunc_Rule_B1 (A : Ar) (x1 : Int) (blockSize6 : Int) : Int × Int → Option ((Int × Int) ⊕ ((Int ⊕ (List Rule))))
 | (a7', b8') =>
  br (A.cmp BinOp.leq b8' x1) (
   none
  ) (
   rt (
    br (A.cmp BinOp.lss (A.ar BinOp.add IntKind.i64 a7' blockSize6) x1) (
     none
    ) (
     some (.inl (A.ar BinOp.mul IntKind.i64 blockSize6 2))
    )
   )
  )
noncomputable def slices_stableCmpFunc_Rule_B2 (A : Ar) (x1 : Int) (w2 : List Rule) : Int → Option (Int ⊕ (List Rule))
 | blockSize6 =>
  br (A.cmp BinOp.lss blockSize6 x1) (
   Loop (slices_stableCmpFunc_Rule_B1 A x1 blockSize6) ((0, A.ar BinOp.mul IntKind.i64 2 blockSize6))
  ) (
   rt (
    some w2
   )
  )
noncomputable def slices_stableCmpFunc_Rule_B3 (A : Ar) (n0 : Int) (x1 : Int) (q2 : Rule → Rule → Option Int) : Int × Int × (List (U TyS.rule)) → Option ((Int × Int × (List (U TyS.rule))) ⊕ (List Rule))
 | (a7, b8, row1000) =>
  br (A.cmp BinOp.leq b8 x1) (
   bd (slices_insertionSortCmpFunc_Rule A row1000 n0 a7 b8 q2) fun w1 =>
   some (.inl ((b8, A.ar BinOp.add IntKind.i64 b8 20, w1)))
  ) (
   rt (
    bd (slices_insertionSortCmpFunc_Rule A row1000 n0 a7 x1 q2) fun w2 =>
    Loop (slices_stableCmpFunc_Rule_B2 A x1 w2) 20
   )
  )
noncomputable def slices_stableCmpFunc_Rule (A : Ar) (x0 : List Rule) (n0 : Int) (x1 : Int) (q2 : Rule → Rule → Option Int) : Option (List Rule) :=
 Loop (slices_stableCmpFunc_Rule_B3 A n0 x1 q2) ((0, 20, x0))
noncomputable def slices_SortStableFunc_Rule_Rule (A : Ar) (x0 : List Rule) (n0 : Int) (q1 : Rule → Rule → Option Int) : Option (List Rule) :=
 bd (slices_stableCmpFunc_Rule A x0 n0 n0 q1) fun w1 =>
 some w1
noncomputable def config_sorted_Rule (A : Ar) (x0 : List Rule) (q1 : Rule → Option ByteArray) : Option (List Rule) :=
 bd (slices_Clone_Rule_Rule A x0) fun w1 =>
 bd (slices_SortStableFunc_Rule_Rule A w1.2 w1.1 fun y0 y1 => config_sorted_Rule_1 A y0 y1 q1) fun w2 =>
 ck (A.subOk 0 (A.pl 0 w1.1) (A.len TyS.rule w2)) <|
 some (A.lsub TyS.rule w2 0 (A.pl 0 w1.1))
noncomputable def slices_Clone_string_string (A : Ar) (x0 : List ByteArray) : Option (Int × List ByteArray) :=
 both (A.cmp BinOp.eql (A.len TyS.str x0) 0) (
  some ((0, []))
 ) (
  ck (A.appOk TyS.str 16 [] x0) <|
  some ((A.len TyS.str (A.app TyS.str [] x0), A.app TyS.str [] x0))
 )
noncomputable def config_sorted_string_1 (A : Ar) (x0 : ByteArray) (x1 : ByteArray) (qc0 : ByteArray → Option ByteArray) : Option Int :=
 bd (qc0 x0) fun w1 =>
 bd (qc0 x1) fun w2 =>
 bd (strings_Compare A w1 w2) fun w3 =>
 some w3
noncomputable def slices_insertionSortCmpFunc_string_B1 (A : Ar) (n0 : Int) (x1 : Int) (q3 : ByteArray → ByteArray → Option Int) (i8 : Int) : Int × (List (U TyS.str)) → Option ((Int × (List (U TyS.str))) ⊕ (((Int × (List (U TyS.str))) ⊕ (List ByteArray))))
 | (j9, row1000') =>
  ck (vc (A.cmp BinOp.gtr j9 x1) (A.inb j9 n0)) <|
  ck (vc (A.cmp BinOp.gtr j9 x1) (A.inb (A.pl 0 j9) (A.len TyS.str row1000'))) <|
  ck (vc (A.cmp BinOp.gtr j9 x1) (A.inb (A.ar BinOp.sub IntKind.i64 j9 1) n0)) <|
  ck (vc (A.cmp BinOp.gtr j9 x1) (A.inb (A.pl 0 (A.ar BinOp.sub IntKind.i64 j9 1)) (A.len TyS.str row1000'))) <|
  bd (gd 0 (A.cmp BinOp.gtr j9 x1) (q3 (A.get TyS.str row1000' (A.pl 0 j9)) (A.get TyS.str row1000' (A.pl 0 (A.ar BinOp.sub IntKind.i64 j9 1))))) fun w5 =>
  br (A.and (A.cmp BinOp.gtr j9 x1) (A.cmp BinOp.lss w5 0)) (
   ck (A.inb (A.ar BinOp.sub IntKind.i64 j9 1) n0) <|
   ck (A.inb (A.pl 0 (A.ar BinOp.sub IntKind.i64 j9 1)) (A.len TyS.str row1000')) <|
   ck (A.inb j9 n0) <|
   ck (A.inb (A.pl 0 j9) (A.len TyS.str row1000')) <|
   ck (A.inb (A.pl 0 (A.ar BinOp.sub IntKind.i64 j9 1)) (A.len TyS.str (A.set TyS.str row1000' (A.pl 0 j9) (A.get TyS.str row1000' (A.pl 0 (A.ar BinOp.sub IntKind.i64 j9 1)))))) <|
   some (.inl ((A.ar BinOp.sub IntKind.i64 j9 1, A.set TyS.str (A.set TyS.str row1000' (A.pl 0 j9) (A.get TyS.str row1000' (A.pl 0 (A.ar BinOp.sub IntKind.i64 j9 1)))) (A.pl 0 (A.ar BinOp.sub IntKind.i64 j9 1)) (A.get TyS.str row1000' (A.pl 0 j9)))))
  ) (
   rt (
    some (.inl ((A.ar BinOp.add IntKind.i64 i8 1, row1000')))
   )
  )
noncomputable def slices_insertionSortCmpFunc_string_B2 (A : Ar) (n0 : Int) (x1 : Int) (x2 : Int) (q3 : ByteArray → ByteArray → Option Int) : Int × (List (U TyS.str)) → Option ((Int × (List (U TyS.str))) ⊕ (List ByteArray))
 | (i8, row1000) =>
  br (A.cmp BinOp.lss i8 x2) (
   Loop (slices_insertionSortCmpFunc_string_B1 A n0 x1 q3 i8) ((i8, row1000))
  ) (
   rt (
    some row1000
   )
  )
noncomputable def slices_insertionSortCmpFunc_string (A : Ar) (x0 : List ByteArray) (n0 : Int) (x1 : Int) (x2 : Int) (q3 : ByteArray → ByteArray → Option Int) : Option (List ByteArray) :=
 Loop (slices_insertionSortCmpFunc_string_B2 A n0 x1 x2 q3) ((A.ar BinOp.add IntKind.i64 x1 1, x0))
noncomputable def slices_stableCmpFunc_string_B1 (A : Ar) (x1 : Int) (blockSize6 : Int) : Int × Int → Option ((Int × Int) ⊕ ((Int ⊕ (List ByteArray))))
 | (a7', b8') =>
  br (A.cmp BinOp.leq b8' x1) (
   none
  ) (
   rt (
    br (A.cmp BinOp.lss (A.ar BinOp.add IntKind.i64 a7' blockSize6) x1) (
     none
    ) (
     some (.inl (A.ar BinOp.mul IntKind.i64 blockSize6 2))
    )
   )
  )
noncomputable def slices_stableCmpFunc_string_B2 (A : Ar) (x1 : Int) (w2 : List ByteArray) : Int → Option (Int ⊕ (List ByteArray))
 | blockSize6 =>
  br (A.cmp BinOp.lss blockSize6 x1) (
   Loop (slices_stableCmpFunc_string_B1 A x1 blockSize6) ((0, A.ar BinOp.mul IntKind.i64 2 blockSize6))
  ) (
   rt (
    some w2
   )
  )
noncomputable def slices_stableCmpFunc_string_B3 (A : Ar) (n0 : Int) (x1 : Int) (q2 : ByteArray → ByteArray → Option Int) : Int × Int × (List (U TyS.str)) → Option ((Int × Int × (List (U TyS.str))) ⊕ (List ByteArray))
 | (a7, b8, row1000) =>
  br (A.cmp BinOp.leq b8 x1) (
   bd (slices_insertionSortCmpFunc_string A row1000 n0 a7 b8 q2) fun w1 =>
   some (.inl ((b8, A.ar BinOp.add IntKind.i64 b8 20, w1)))
  ) (
   rt (
    bd (slices_insertionSortCmpFunc_string A row1000 n0 a7 x1 q2) fun w2 =>
    Loop (slices_stableCmpFunc_string_B2 A x1 w2) 20
   )
  )
noncomputable def slices_stableCmpFunc_string (A : Ar) (x0 : List ByteArray) (n0 : Int) (x1 : Int) (q2 : ByteArray → ByteArray → Option Int) : Option (List ByteArray) :=
 Loop (slices_stableCmpFunc_string_B3 A n0 x1 q2) ((0, 20, x0))
noncomputable def slices_SortStableFunc_string_string (A : Ar) (x0 : List ByteArray) (n0 : Int) (q1 : ByteArray → ByteArray → Option Int) : Option (List ByteArray) :=
 bd (slices_stableCmpFunc_string A x0 n0 n0 q1) fun w1 =>
 some w1
noncomputable def config_sorted_string (A : Ar) (x0 : List ByteArray) (q1 : ByteArray → Option ByteArray) : Option (List ByteArray) :=
 bd (slices_Clone_string_string A x0) fun w1 =>
 bd (slices_SortStableFunc_string_string A w1.2 w1.1 fun y0 y1 => config_sorted_string_1 A y0 y1 q1) fun w2 =>
 ck (A.subOk 0 (A.pl 0 w1.1) (A.len TyS.str w2)) <|
 some (A.lsub TyS.str w2 0 (A.pl 0 w1.1))
noncomputable def slices_Clone_Hours_Hours (A : Ar) (x0 : List Hours) : Option (Int × List Hours) :=
 both (A.cmp BinOp.eql (A.len TyS.hours x0) 0) (
  some ((0, []))
 ) (
  ck (A.appOk TyS.hours 40 [] x0) <|
  some ((A.len TyS.hours (A.app TyS.hours [] x0), A.app TyS.hours [] x0))
 )
noncomputable def config_sorted_Hours_1 (A : Ar) (x0 : Hours) (x1 : Hours) (qc0 : Hours → Option ByteArray) : Option Int :=
 bd (qc0 x0) fun w1 =>
 bd (qc0 x1) fun w2 =>
 bd (strings_Compare A w1 w2) fun w3 =>
 some w3
noncomputable def slices_insertionSortCmpFunc_Hours_B1 (A : Ar) (n0 : Int) (x1 : Int) (q3 : Hours → Hours → Option Int) (i8 : Int) : Int × (List (U TyS.hours)) → Option ((Int × (List (U TyS.hours))) ⊕ (((Int × (List (U TyS.hours))) ⊕ (List Hours))))
 | (j9, row1000') =>
  ck (vc (A.cmp BinOp.gtr j9 x1) (A.inb j9 n0)) <|
  ck (vc (A.cmp BinOp.gtr j9 x1) (A.inb (A.pl 0 j9) (A.len TyS.hours row1000'))) <|
  ck (vc (A.cmp BinOp.gtr j9 x1) (A.inb (A.ar BinOp.sub IntKind.i64 j9 1) n0)) <|
  ck (vc (A.cmp BinOp.gtr j9 x1) (A.inb (A.pl 0 (A.ar BinOp.sub IntKind.i64 j9 1)) (A.len TyS.hours row1000'))) <|
  bd (gd 0 (A.cmp BinOp.gtr j9 x1) (q3 (A.get TyS.hours row1000' (A.pl 0 j9)) (A.get TyS.hours row1000' (A.pl 0 (A.ar BinOp.sub IntKind.i64 j9 1))))) fun w5 =>
  br (A.and (A.cmp BinOp.gtr j9 x1) (A.cmp BinOp.lss w5 0)) (
   ck (A.inb (A.ar BinOp.sub IntKind.i64 j9 1) n0) <|
   ck (A.inb (A.pl 0 (A.ar BinOp.sub IntKind.i64 j9 1)) (A.len TyS.hours row1000')) <|
   ck (A.inb j9 n0) <|
   ck (A.inb (A.pl 0 j9) (A.len TyS.hours row1000')) <|
   ck (A.inb (A.pl 0 (A.ar BinOp.sub IntKind.i64 j9 1)) (A.len TyS.hours (A.set TyS.hours row1000' (A.pl 0 j9) (A.get TyS.hours row1000' (A.pl 0 (A.ar BinOp.sub IntKind.i64 j9 1)))))) <|
   some (.inl ((A.ar BinOp.sub IntKind.i64 j9 1, A.set TyS.hours (A.set TyS.hours row1000' (A.pl 0 j9) (A.get TyS.hours row1000' (A.pl 0 (A.ar BinOp.sub IntKind.i64 j9 1)))) (A.pl 0 (A.ar BinOp.sub IntKind.i64 j9 1)) (A.get TyS.hours row1000' (A.pl 0 j9)))))
  ) (
   rt (
    some (.inl ((A.ar BinOp.add IntKind.i64 i8 1, row1000')))
   )
  )
noncomputable def slices_insertionSortCmpFunc_Hours_B2 (A : Ar) (n0 : Int) (x1 : Int) (x2 : Int) (q3 : Hours → Hours → Option Int) : Int × (List (U TyS.hours)) → Option ((Int × (List (U TyS.hours))) ⊕ (List Hours))
 | (i8, row1000) =>
  br (A.cmp BinOp.lss i8 x2) (
   Loop (slices_insertionSortCmpFunc_Hours_B1 A n0 x1 q3 i8) ((i8, row1000))
  ) (
   rt (
    some row1000
   )
  )
noncomputable def slices_insertionSortCmpFunc_Hours (A : Ar) (x0 : List Hours) (n0 : Int) (x1 : Int) (x2 : Int) (q3 : Hours → Hours → Option Int) : Option (List Hours) :=
 Loop (slices_insertionSortCmpFunc_Hours_B2 A n0 x1 x2 q3) ((A.ar BinOp.add IntKind.i64 x1 1, x0))
noncomputable def slices_stableCmpFunc_Hours_B1 (A : Ar) (x1 : Int) (blockSize6 : Int) : Int × Int → Option ((Int × Int) ⊕ ((Int ⊕ (List Hours))))
 | (a7', b8') =>
  br (A.cmp BinOp.leq b8' x1) (
   none
  ) (
   rt (
    br (A.cmp BinOp.lss (A.ar BinOp.add IntKind.i64 a7' blockSize6) x1) (
     none
    ) (
     some (.inl (A.ar BinOp.mul IntKind.i64 blockSize6 2))
    )
   )
  )
noncomputable def slices_stableCmpFunc_Hours_B2 (A : Ar) (x1 : Int) (w2 : List Hours) : Int → Option (Int ⊕ (List Hours))
 | blockSize6 =>
  br (A.cmp BinOp.lss blockSize6 x1) (
   Loop (slices_stableCmpFunc_Hours_B1 A x1 blockSize6) ((0, A.ar BinOp.mul IntKind.i64 2 blockSize6))
  ) (
   rt (
    some w2
   )
  )
noncomputable def slices_stableCmpFunc_Hours_B3 (A : Ar) (n0 : Int) (x1 : Int) (q2 : Hours → Hours → Option Int) : Int × Int × (List (U TyS.hours)) → Option ((Int × Int × (List (U TyS.hours))) ⊕ (List Hours))
 | (a7, b8, row1000) =>
  br (A.cmp BinOp.leq b8 x1) (
   bd (slices_insertionSortCmpFunc_Hours A row1000 n0 a7 b8 q2) fun w1 =>
   some (.inl ((b8, A.ar BinOp.add IntKind.i64 b8 20, w1)))
  ) (
   rt (
    bd (slices_insertionSortCmpFunc_Hours A row1000 n0 a7 x1 q2) fun w2 =>
    Loop (slices_stableCmpFunc_Hours_B2 A x1 w2) 20
   )
  )
noncomputable def slices_stableCmpFunc_Hours (A : Ar) (x0 : List Hours) (n0 : Int) (x1 : Int) (q2 : Hours → Hours → Option Int) : Option (List Hours) :=
 Loop (slices_stableCmpFunc_Hours_B3 A n0 x1 q2) ((0, 20, x0))
noncomputable def slices_SortStableFunc_Hours_Hours (A : Ar) (x0 : List Hours) (n0 : Int) (q1 : Hours → Hours → Option Int) : Option (List Hours) :=
 bd (slices_stableCmpFunc_Hours A x0 n0 n0 q1) fun w1 =>
 some w1
noncomputable def config_sorted_Hours (A : Ar) (x0 : List Hours) (q1 : Hours → Option ByteArray) : Option (List Hours) :=
 bd (slices_Clone_Hours_Hours A x0) fun w1 =>
 bd (slices_SortStableFunc_Hours_Hours A w1.2 w1.1 fun y0 y1 => config_sorted_Hours_1 A y0 y1 q1) fun w2 =>
 ck (A.subOk 0 (A.pl 0 w1.1) (A.len TyS.hours w2)) <|
 some (A.lsub TyS.hours w2 0 (A.pl 0 w1.1))
noncomputable def slices_Clone_Inhibit_Inhibit (A : Ar) (x0 : List Inhibit) : Option (Int × List Inhibit) :=
 both (A.cmp BinOp.eql (A.len TyS.inhibit x0) 0) (
  some ((0, []))
 ) (
  ck (A.appOk TyS.inhibit 72 [] x0) <|
  some ((A.len TyS.inhibit (A.app TyS.inhibit [] x0), A.app TyS.inhibit [] x0))
 )
noncomputable def config_sorted_Inhibit_1 (A : Ar) (x0 : Inhibit) (x1 : Inhibit) (c0 : Bool) : Option (Int × Bool) :=
 bd (config_Normal_1 A x0 c0) fun w1 =>
 bd (config_Normal_1 A x1 w1.2) fun w2 =>
 bd (strings_Compare A w1.1 w2.1) fun w3 =>
 some ((w3, w2.2))
noncomputable def slices_insertionSortCmpFunc_Inhibit_B1 (A : Ar) (n0 : Int) (x1 : Int) (i8 : Int) : Int × Bool × (List (U TyS.inhibit)) → Option ((Int × Bool × (List (U TyS.inhibit))) ⊕ (((Int × Bool × (List (U TyS.inhibit))) ⊕ (List Inhibit × Bool))))
 | (j9, b0_1002', row1000') =>
  br (A.cmp BinOp.gtr j9 x1) (
   ck (A.inb j9 n0) <|
   ck (A.inb (A.pl 0 j9) (A.len TyS.inhibit row1000')) <|
   ck (A.inb (A.ar BinOp.sub IntKind.i64 j9 1) n0) <|
   ck (A.inb (A.pl 0 (A.ar BinOp.sub IntKind.i64 j9 1)) (A.len TyS.inhibit row1000')) <|
   bd (config_sorted_Inhibit_1 A (A.get TyS.inhibit row1000' (A.pl 0 j9)) (A.get TyS.inhibit row1000' (A.pl 0 (A.ar BinOp.sub IntKind.i64 j9 1))) b0_1002') fun w5 =>
   br (A.and true (A.cmp BinOp.lss w5.1 0)) (
    ck (A.inb (A.pl 0 (A.ar BinOp.sub IntKind.i64 j9 1)) (A.len TyS.inhibit (A.set TyS.inhibit row1000' (A.pl 0 j9) (A.get TyS.inhibit row1000' (A.pl 0 (A.ar BinOp.sub IntKind.i64 j9 1)))))) <|
    some (.inl ((A.ar BinOp.sub IntKind.i64 j9 1, w5.2, A.set TyS.inhibit (A.set TyS.inhibit row1000' (A.pl 0 j9) (A.get TyS.inhibit row1000' (A.pl 0 (A.ar BinOp.sub IntKind.i64 j9 1)))) (A.pl 0 (A.ar BinOp.sub IntKind.i64 j9 1)) (A.get TyS.inhibit row1000' (A.pl 0 j9)))))
   ) (
    rt (
     some (.inl ((A.ar BinOp.add IntKind.i64 i8 1, w5.2, row1000')))
    )
   )
  ) (
   br (A.and false false) (
    ck (A.inb (A.ar BinOp.sub IntKind.i64 j9 1) n0) <|
    ck (A.inb (A.pl 0 (A.ar BinOp.sub IntKind.i64 j9 1)) (A.len TyS.inhibit row1000')) <|
    ck (A.inb j9 n0) <|
    ck (A.inb (A.pl 0 j9) (A.len TyS.inhibit row1000')) <|
    ck (A.inb (A.pl 0 (A.ar BinOp.sub IntKind.i64 j9 1)) (A.len TyS.inhibit (A.set TyS.inhibit row1000' (A.pl 0 j9) (A.get TyS.inhibit row1000' (A.pl 0 (A.ar BinOp.sub IntKind.i64 j9 1)))))) <|
    some (.inl ((A.ar BinOp.sub IntKind.i64 j9 1, b0_1002', A.set TyS.inhibit (A.set TyS.inhibit row1000' (A.pl 0 j9) (A.get TyS.inhibit row1000' (A.pl 0 (A.ar BinOp.sub IntKind.i64 j9 1)))) (A.pl 0 (A.ar BinOp.sub IntKind.i64 j9 1)) (A.get TyS.inhibit row1000' (A.pl 0 j9)))))
   ) (
    rt (
     some (.inl ((A.ar BinOp.add IntKind.i64 i8 1, b0_1002', row1000')))
    )
   )
  )
noncomputable def slices_insertionSortCmpFunc_Inhibit_B2 (A : Ar) (n0 : Int) (x1 : Int) (x2 : Int) : Int × Bool × (List (U TyS.inhibit)) → Option ((Int × Bool × (List (U TyS.inhibit))) ⊕ (List Inhibit × Bool))
 | (i8, b0_1002, row1000) =>
  br (A.cmp BinOp.lss i8 x2) (
   Loop (slices_insertionSortCmpFunc_Inhibit_B1 A n0 x1 i8) ((i8, b0_1002, row1000))
  ) (
   rt (
    some ((row1000, b0_1002))
   )
  )
noncomputable def slices_insertionSortCmpFunc_Inhibit (A : Ar) (x0 : List Inhibit) (n0 : Int) (x1 : Int) (x2 : Int) (c0 : Bool) : Option (List Inhibit × Bool) :=
 Loop (slices_insertionSortCmpFunc_Inhibit_B2 A n0 x1 x2) ((A.ar BinOp.add IntKind.i64 x1 1, c0, x0))
noncomputable def slices_stableCmpFunc_Inhibit_B1 (A : Ar) (x1 : Int) (blockSize6 : Int) : Int × Int → Option ((Int × Int) ⊕ ((Int ⊕ (List Inhibit × Bool))))
 | (a7', b8') =>
  br (A.cmp BinOp.leq b8' x1) (
   none
  ) (
   rt (
    br (A.cmp BinOp.lss (A.ar BinOp.add IntKind.i64 a7' blockSize6) x1) (
     none
    ) (
     some (.inl (A.ar BinOp.mul IntKind.i64 blockSize6 2))
    )
   )
  )
noncomputable def slices_stableCmpFunc_Inhibit_B2 (A : Ar) (x1 : Int) (w2 : List Inhibit × Bool) : Int → Option (Int ⊕ (List Inhibit × Bool))
 | blockSize6 =>
  br (A.cmp BinOp.lss blockSize6 x1) (
   Loop (slices_stableCmpFunc_Inhibit_B1 A x1 blockSize6) ((0, A.ar BinOp.mul IntKind.i64 2 blockSize6))
  ) (
   rt (
    some w2
   )
  )
noncomputable def slices_stableCmpFunc_Inhibit_B3 (A : Ar) (n0 : Int) (x1 : Int) : Int × Int × Bool × (List (U TyS.inhibit)) → Option ((Int × Int × Bool × (List (U TyS.inhibit))) ⊕ (List Inhibit × Bool))
 | (a7, b8, b0_1002, row1000) =>
  br (A.cmp BinOp.leq b8 x1) (
   bd (slices_insertionSortCmpFunc_Inhibit A row1000 n0 a7 b8 b0_1002) fun w1 =>
   some (.inl ((b8, A.ar BinOp.add IntKind.i64 b8 20, w1.2, w1.1)))
  ) (
   rt (
    bd (slices_insertionSortCmpFunc_Inhibit A row1000 n0 a7 x1 b0_1002) fun w2 =>
    Loop (slices_stableCmpFunc_Inhibit_B2 A x1 w2) 20
   )
  )
noncomputable def slices_stableCmpFunc_Inhibit (A : Ar) (x0 : List Inhibit) (n0 : Int) (x1 : Int) (c0 : Bool) : Option (List Inhibit × Bool) :=
 Loop (slices_stableCmpFunc_Inhibit_B3 A n0 x1) ((0, 20, c0, x0))
noncomputable def slices_SortStableFunc_Inhibit_Inhibit (A : Ar) (x0 : List Inhibit) (n0 : Int) (c0 : Bool) : Option (List Inhibit × Bool) :=
 bd (slices_stableCmpFunc_Inhibit A x0 n0 n0 c0) fun w1 =>
 some w1
noncomputable def config_sorted_Inhibit (A : Ar) (x0 : List Inhibit) (c0 : Bool) : Option (Int × List Inhibit × Bool) :=
 bd (slices_Clone_Inhibit_Inhibit A x0) fun w1 =>
 bd (slices_SortStableFunc_Inhibit_Inhibit A w1.2 w1.1 c0) fun w2 =>
 some ((w1.1, w2))
noncomputable def config_Normal_2 (A : Ar) (x0 : Inhibit) (x1 : Inhibit) (c0 : Bool) : Option (Bool × Bool) :=
 bd (config_Normal_1 A x0 c0) fun w1 =>
 bd (config_Normal_1 A x1 w1.2) fun w2 =>
 some ((A.scmp BinOp.eql w1.1 w2.1, w2.2))
noncomputable def slices_CompactFunc_Inhibit_Inhibit_B1 (A : Ar) (n0 : Int) (t5 : Int) : Int × Int × Bool × (List (U TyS.inhibit)) → Option ((Int × Int × Bool × (List (U TyS.inhibit))) ⊕ (((Int × Bool) ⊕ (Int × Int × List Inhibit × Bool))))
 | (t5', t7, b0_1002', row1000) =>
  br (A.cmp BinOp.lss t7 (A.mi n0 t5)) (
   ck (A.inb t7 (A.mi n0 t5)) <|
   ck (A.inb (A.pl (A.pl 0 t5) t7) (A.len TyS.inhibit row1000)) <|
   ck (A.inb (A.ar BinOp.sub IntKind.i64 t7 1) (A.mi n0 t5)) <|
   ck (A.inb (A.pl (A.pl 0 t5) (A.ar BinOp.sub IntKind.i64 t7 1)) (A.len TyS.inhibit row1000)) <|
   bd (config_Normal_2 A (A.get TyS.inhibit row1000 (A.pl (A.pl 0 t5) t7)) (A.get TyS.inhibit row1000 (A.pl (A.pl 0 t5) (A.ar BinOp.sub IntKind.i64 t7 1))) b0_1002') fun w11 =>
   br (A.not w11.1) (
    ck (A.inb t5' n0) <|
    ck (A.inb (A.pl 0 t5') (A.len TyS.inhibit row1000)) <|
    some (.inl ((A.ar BinOp.add IntKind.i64 t5' 1, A.ar BinOp.add IntKind.i64 t7 1, w11.2, A.set TyS.inhibit row1000 (A.pl 0 t5') (A.get TyS.inhibit row1000 (A.pl (A.pl 0 t5) t7)))))
   ) (
    some (.inl ((t5', A.ar BinOp.add IntKind.i64 t7 1, w11.2, row1000)))
   )
  ) (
   rt (
    ck (A.subOk t5' n0 n0) <|
    ck (A.subOk (A.pl 0 t5') (A.pl (A.pl 0 t5') (A.mi n0 t5')) (A.len TyS.inhibit row1000)) <|
    ck (A.subOk 0 t5' n0) <|
    rt (
     some ((A.pl 0 0, A.mi t5' 0, A.fill TyS.inhibit row1000 (A.pl 0 t5') (A.mi n0 t5') (Inhibit.mk [] [] []), b0_1002'))
    )
   )
  )
noncomputable def slices_CompactFunc_Inhibit_Inhibit_B2 (A : Ar) (x0 : List Inhibit) (n0 : Int) : Int × Bool → Option ((Int × Bool) ⊕ (Int × Int × List Inhibit × Bool))
 | (t5, b0_1002) =>
  br (A.cmp BinOp.lss t5 n0) (
   ck (A.inb t5 n0) <|
   ck (A.inb (A.pl 0 t5) (A.len TyS.inhibit x0)) <|
   ck (A.inb (A.ar BinOp.sub IntKind.i64 t5 1) n0) <|
   ck (A.inb (A.pl 0 (A.ar BinOp.sub IntKind.i64 t5 1)) (A.len TyS.inhibit x0)) <|
   bd (config_Normal_2 A (A.get TyS.inhibit x0 (A.pl 0 t5)) (A.get TyS.inhibit x0 (A.pl 0 (A.ar BinOp.sub IntKind.i64 t5 1))) b0_1002) fun w5 =>
   br (w5.1) (
    ck (A.subOk t5 n0 n0) <|
    Loop (slices_CompactFunc_Inhibit_Inhibit_B1 A n0 t5) ((t5, 1, w5.2, x0))
   ) (
    some (.inl ((A.ar BinOp.add IntKind.i64 t5 1, w5.2)))
   )
  ) (
   rt (
    some ((0, n0, x0, b0_1002))
   )
  )
noncomputable def slices_CompactFunc_Inhibit_Inhibit (A : Ar) (x0 : List Inhibit) (n0 : Int) (c0 : Bool) : Option (Int × Int × List Inhibit × Bool) :=
 br (A.cmp BinOp.lss n0 2) (
  some ((0, n0, x0, c0))
 ) (
  Loop (slices_CompactFunc_Inhibit_Inhibit_B2 A x0 n0) ((1, c0))
 )
noncomputable def config_Normal (A : Ar) (x0 : Config) : Option (Config × Int) :=
 bd (config_Right A x0) fun w1 =>
 br (A.not w1) (
  some ((Config.mk [] (Route.mk (ByteArray.mk (Array.mk [])) [] [] 0 0 0 [] false []) [] [] [], 1))
 ) (
  bd (config_sorted_Rule A x0.1 fun y0 => config_ruled A y0) fun w2 =>
  bd (config_sorted_string A x0.3 fun y0 => config_itself A y0) fun w3 =>
  bd (config_sorted_Hours A x0.5 fun y0 => config_houred A y0) fun w4 =>
  bd (config_sorted_Inhibit A x0.4 false) fun w5 =>
  bd (slices_CompactFunc_Inhibit_Inhibit A w5.2.1 w5.1 w5.2.2) fun w6 =>
  ck (A.subOk w6.1 (A.pl w6.1 w6.2.1) (A.len TyS.inhibit w6.2.2.1)) <|
  some ((Config.mk w2 x0.2 w3 (A.lsub TyS.inhibit w6.2.2.1 w6.1 (A.pl w6.1 w6.2.1)) w4, 0))
 )
noncomputable def transhipmentlaw10_alive (A : Ar) : Option Bool :=
 bd (config_Normal A (Config.mk [] (Route.mk (ByteArray.mk (Array.mk [111, 112, 115])) [] [] 0 1 1 [] false []) [ByteArray.mk (Array.mk [111, 112, 115]), ByteArray.mk (Array.mk [100, 101, 118])] [] [])) fun w1 =>
 ck (vc (A.and (A.cmp BinOp.eql w1.2 0) (A.cmp BinOp.eql (A.len TyS.str w1.1.3) 2)) (A.inb 0 (A.len TyS.str w1.1.3))) <|
 bd (gd false (A.and (A.and (A.cmp BinOp.eql w1.2 0) (A.cmp BinOp.eql (A.len TyS.str w1.1.3) 2)) (A.scmp BinOp.eql (A.get TyS.str w1.1.3 0) (ByteArray.mk (Array.mk [100, 101, 118])))) (config_Right A w1.1)) fun w3 =>
 some (A.and (A.and (A.and (A.cmp BinOp.eql w1.2 0) (A.cmp BinOp.eql (A.len TyS.str w1.1.3) 2)) (A.scmp BinOp.eql (A.get TyS.str w1.1.3 0) (ByteArray.mk (Array.mk [100, 101, 118])))) w3)
noncomputable def transhipmentlaw10_turned_Rule (A : Ar) (x0 : List Rule) (x1 : Int) : Option (List Rule) :=
 br (A.cmp BinOp.eql (A.len TyS.rule x0) 0) (
  some x0
 ) (
  ck (A.nz (A.len TyS.rule x0)) <|
  ck (A.subOk (A.ar BinOp.rem IntKind.i64 (A.ar BinOp.add IntKind.i64 (A.ar BinOp.rem IntKind.i64 x1 (A.len TyS.rule x0)) (A.len TyS.rule x0)) (A.len TyS.rule x0)) (A.len TyS.rule x0) (A.len TyS.rule x0)) <|
  ck (A.appOk TyS.rule 96 [] (A.lsub TyS.rule x0 (A.ar BinOp.rem IntKind.i64 (A.ar BinOp.add IntKind.i64 (A.ar BinOp.rem IntKind.i64 x1 (A.len TyS.rule x0)) (A.len TyS.rule x0)) (A.len TyS.rule x0)) (A.len TyS.rule x0))) <|
  ck (A.subOk 0 (A.ar BinOp.rem IntKind.i64 (A.ar BinOp.add IntKind.i64 (A.ar BinOp.rem IntKind.i64 x1 (A.len TyS.rule x0)) (A.len TyS.rule x0)) (A.len TyS.rule x0)) (A.len TyS.rule x0)) <|
  ck (A.appOk TyS.rule 96 (A.app TyS.rule [] (A.lsub TyS.rule x0 (A.ar BinOp.rem IntKind.i64 (A.ar BinOp.add IntKind.i64 (A.ar BinOp.rem IntKind.i64 x1 (A.len TyS.rule x0)) (A.len TyS.rule x0)) (A.len TyS.rule x0)) (A.len TyS.rule x0))) (A.lsub TyS.rule x0 0 (A.ar BinOp.rem IntKind.i64 (A.ar BinOp.add IntKind.i64 (A.ar BinOp.rem IntKind.i64 x1 (A.len TyS.rule x0)) (A.len TyS.rule x0)) (A.len TyS.rule x0)))) <|
  some (A.app TyS.rule (A.app TyS.rule [] (A.lsub TyS.rule x0 (A.ar BinOp.rem IntKind.i64 (A.ar BinOp.add IntKind.i64 (A.ar BinOp.rem IntKind.i64 x1 (A.len TyS.rule x0)) (A.len TyS.rule x0)) (A.len TyS.rule x0)) (A.len TyS.rule x0))) (A.lsub TyS.rule x0 0 (A.ar BinOp.rem IntKind.i64 (A.ar BinOp.add IntKind.i64 (A.ar BinOp.rem IntKind.i64 x1 (A.len TyS.rule x0)) (A.len TyS.rule x0)) (A.len TyS.rule x0))))
 )
noncomputable def transhipmentlaw10_turned_string (A : Ar) (x0 : List ByteArray) (x1 : Int) : Option (List ByteArray) :=
 br (A.cmp BinOp.eql (A.len TyS.str x0) 0) (
  some x0
 ) (
  ck (A.nz (A.len TyS.str x0)) <|
  ck (A.subOk (A.ar BinOp.rem IntKind.i64 (A.ar BinOp.add IntKind.i64 (A.ar BinOp.rem IntKind.i64 x1 (A.len TyS.str x0)) (A.len TyS.str x0)) (A.len TyS.str x0)) (A.len TyS.str x0) (A.len TyS.str x0)) <|
  ck (A.appOk TyS.str 16 [] (A.lsub TyS.str x0 (A.ar BinOp.rem IntKind.i64 (A.ar BinOp.add IntKind.i64 (A.ar BinOp.rem IntKind.i64 x1 (A.len TyS.str x0)) (A.len TyS.str x0)) (A.len TyS.str x0)) (A.len TyS.str x0))) <|
  ck (A.subOk 0 (A.ar BinOp.rem IntKind.i64 (A.ar BinOp.add IntKind.i64 (A.ar BinOp.rem IntKind.i64 x1 (A.len TyS.str x0)) (A.len TyS.str x0)) (A.len TyS.str x0)) (A.len TyS.str x0)) <|
  ck (A.appOk TyS.str 16 (A.app TyS.str [] (A.lsub TyS.str x0 (A.ar BinOp.rem IntKind.i64 (A.ar BinOp.add IntKind.i64 (A.ar BinOp.rem IntKind.i64 x1 (A.len TyS.str x0)) (A.len TyS.str x0)) (A.len TyS.str x0)) (A.len TyS.str x0))) (A.lsub TyS.str x0 0 (A.ar BinOp.rem IntKind.i64 (A.ar BinOp.add IntKind.i64 (A.ar BinOp.rem IntKind.i64 x1 (A.len TyS.str x0)) (A.len TyS.str x0)) (A.len TyS.str x0)))) <|
  some (A.app TyS.str (A.app TyS.str [] (A.lsub TyS.str x0 (A.ar BinOp.rem IntKind.i64 (A.ar BinOp.add IntKind.i64 (A.ar BinOp.rem IntKind.i64 x1 (A.len TyS.str x0)) (A.len TyS.str x0)) (A.len TyS.str x0)) (A.len TyS.str x0))) (A.lsub TyS.str x0 0 (A.ar BinOp.rem IntKind.i64 (A.ar BinOp.add IntKind.i64 (A.ar BinOp.rem IntKind.i64 x1 (A.len TyS.str x0)) (A.len TyS.str x0)) (A.len TyS.str x0))))
 )
noncomputable def transhipmentlaw10_turned_Inhibit (A : Ar) (x0 : List Inhibit) (x1 : Int) : Option (List Inhibit) :=
 br (A.cmp BinOp.eql (A.len TyS.inhibit x0) 0) (
  some x0
 ) (
  ck (A.nz (A.len TyS.inhibit x0)) <|
  ck (A.subOk (A.ar BinOp.rem IntKind.i64 (A.ar BinOp.add IntKind.i64 (A.ar BinOp.rem IntKind.i64 x1 (A.len TyS.inhibit x0)) (A.len TyS.inhibit x0)) (A.len TyS.inhibit x0)) (A.len TyS.inhibit x0) (A.len TyS.inhibit x0)) <|
  ck (A.appOk TyS.inhibit 72 [] (A.lsub TyS.inhibit x0 (A.ar BinOp.rem IntKind.i64 (A.ar BinOp.add IntKind.i64 (A.ar BinOp.rem IntKind.i64 x1 (A.len TyS.inhibit x0)) (A.len TyS.inhibit x0)) (A.len TyS.inhibit x0)) (A.len TyS.inhibit x0))) <|
  ck (A.subOk 0 (A.ar BinOp.rem IntKind.i64 (A.ar BinOp.add IntKind.i64 (A.ar BinOp.rem IntKind.i64 x1 (A.len TyS.inhibit x0)) (A.len TyS.inhibit x0)) (A.len TyS.inhibit x0)) (A.len TyS.inhibit x0)) <|
  ck (A.appOk TyS.inhibit 72 (A.app TyS.inhibit [] (A.lsub TyS.inhibit x0 (A.ar BinOp.rem IntKind.i64 (A.ar BinOp.add IntKind.i64 (A.ar BinOp.rem IntKind.i64 x1 (A.len TyS.inhibit x0)) (A.len TyS.inhibit x0)) (A.len TyS.inhibit x0)) (A.len TyS.inhibit x0))) (A.lsub TyS.inhibit x0 0 (A.ar BinOp.rem IntKind.i64 (A.ar BinOp.add IntKind.i64 (A.ar BinOp.rem IntKind.i64 x1 (A.len TyS.inhibit x0)) (A.len TyS.inhibit x0)) (A.len TyS.inhibit x0)))) <|
  some (A.app TyS.inhibit (A.app TyS.inhibit [] (A.lsub TyS.inhibit x0 (A.ar BinOp.rem IntKind.i64 (A.ar BinOp.add IntKind.i64 (A.ar BinOp.rem IntKind.i64 x1 (A.len TyS.inhibit x0)) (A.len TyS.inhibit x0)) (A.len TyS.inhibit x0)) (A.len TyS.inhibit x0))) (A.lsub TyS.inhibit x0 0 (A.ar BinOp.rem IntKind.i64 (A.ar BinOp.add IntKind.i64 (A.ar BinOp.rem IntKind.i64 x1 (A.len TyS.inhibit x0)) (A.len TyS.inhibit x0)) (A.len TyS.inhibit x0))))
 )
noncomputable def transhipmentlaw10_turned_Hours (A : Ar) (x0 : List Hours) (x1 : Int) : Option (List Hours) :=
 br (A.cmp BinOp.eql (A.len TyS.hours x0) 0) (
  some x0
 ) (
  ck (A.nz (A.len TyS.hours x0)) <|
  ck (A.subOk (A.ar BinOp.rem IntKind.i64 (A.ar BinOp.add IntKind.i64 (A.ar BinOp.rem IntKind.i64 x1 (A.len TyS.hours x0)) (A.len TyS.hours x0)) (A.len TyS.hours x0)) (A.len TyS.hours x0) (A.len TyS.hours x0)) <|
  ck (A.appOk TyS.hours 40 [] (A.lsub TyS.hours x0 (A.ar BinOp.rem IntKind.i64 (A.ar BinOp.add IntKind.i64 (A.ar BinOp.rem IntKind.i64 x1 (A.len TyS.hours x0)) (A.len TyS.hours x0)) (A.len TyS.hours x0)) (A.len TyS.hours x0))) <|
  ck (A.subOk 0 (A.ar BinOp.rem IntKind.i64 (A.ar BinOp.add IntKind.i64 (A.ar BinOp.rem IntKind.i64 x1 (A.len TyS.hours x0)) (A.len TyS.hours x0)) (A.len TyS.hours x0)) (A.len TyS.hours x0)) <|
  ck (A.appOk TyS.hours 40 (A.app TyS.hours [] (A.lsub TyS.hours x0 (A.ar BinOp.rem IntKind.i64 (A.ar BinOp.add IntKind.i64 (A.ar BinOp.rem IntKind.i64 x1 (A.len TyS.hours x0)) (A.len TyS.hours x0)) (A.len TyS.hours x0)) (A.len TyS.hours x0))) (A.lsub TyS.hours x0 0 (A.ar BinOp.rem IntKind.i64 (A.ar BinOp.add IntKind.i64 (A.ar BinOp.rem IntKind.i64 x1 (A.len TyS.hours x0)) (A.len TyS.hours x0)) (A.len TyS.hours x0)))) <|
  some (A.app TyS.hours (A.app TyS.hours [] (A.lsub TyS.hours x0 (A.ar BinOp.rem IntKind.i64 (A.ar BinOp.add IntKind.i64 (A.ar BinOp.rem IntKind.i64 x1 (A.len TyS.hours x0)) (A.len TyS.hours x0)) (A.len TyS.hours x0)) (A.len TyS.hours x0))) (A.lsub TyS.hours x0 0 (A.ar BinOp.rem IntKind.i64 (A.ar BinOp.add IntKind.i64 (A.ar BinOp.rem IntKind.i64 x1 (A.len TyS.hours x0)) (A.len TyS.hours x0)) (A.len TyS.hours x0))))
 )
noncomputable def label_marks_B1 (A : Ar) (x0 : List Label) : (List (U TyS.mark)) × Int → Option (((List (U TyS.mark)) × Int) ⊕ (List label_mark))
 | (out3, t8) =>
  br (A.cmp BinOp.lss t8 (A.len TyS.label x0)) (
   ck (A.inb t8 (A.len TyS.label x0)) <|
   ck (A.appOk TyS.mark 32 out3 [label_mark.mk (A.get TyS.label x0 t8).1 (A.get TyS.label x0 t8).2]) <|
   some (.inl ((A.app TyS.mark out3 [label_mark.mk (A.get TyS.label x0 t8).1 (A.get TyS.label x0 t8).2], A.ar BinOp.add IntKind.i64 t8 1)))
  ) (
   rt (
    some out3
   )
  )
noncomputable def label_marks (A : Ar) (x0 : List Label) : Option (List label_mark) :=
 Loop (label_marks_B1 A x0) (([], 0))
noncomputable def label_mark_text (A : Ar) (x0 : label_mark) : Option ByteArray :=
 ck (A.catOk x0.1 (ByteArray.mk (Array.mk [61, 34]))) <|
 bd (strings_ReplaceAll A x0.2 (ByteArray.mk (Array.mk [92])) (ByteArray.mk (Array.mk [92, 92]))) fun w2 =>
 bd (strings_ReplaceAll A w2 (ByteArray.mk (Array.mk [34])) (ByteArray.mk (Array.mk [92, 34]))) fun w3 =>
 ck (A.catOk (A.cat x0.1 (ByteArray.mk (Array.mk [61, 34]))) w3) <|
 ck (A.catOk (A.cat (A.cat x0.1 (ByteArray.mk (Array.mk [61, 34]))) w3) (ByteArray.mk (Array.mk [34]))) <|
 some (A.cat (A.cat (A.cat x0.1 (ByteArray.mk (Array.mk [61, 34]))) w3) (ByteArray.mk (Array.mk [34])))
noncomputable def label_Text_B1 (A : Ar) (w2 : List label_mark) : (List (U TyS.str)) × Int → Option (((List (U TyS.str)) × Int) ⊕ (ByteArray × Int))
 | (parts4, t13) =>
  br (A.cmp BinOp.lss t13 (A.len TyS.mark w2)) (
   ck (A.inb t13 (A.len TyS.mark w2)) <|
   bd (label_mark_text A (A.get TyS.mark w2 t13)) fun w4 =>
   ck (A.appOk TyS.str 16 parts4 [w4]) <|
   some (.inl ((A.app TyS.str parts4 [w4], A.ar BinOp.add IntKind.i64 t13 1)))
  ) (
   rt (
    bd (strings_Join A parts4 (ByteArray.mk (Array.mk [44]))) fun w6 =>
    ck (A.catOk (ByteArray.mk (Array.mk [123])) w6) <|
    ck (A.catOk (A.cat (ByteArray.mk (Array.mk [123])) w6) (ByteArray.mk (Array.mk [125]))) <|
    some ((A.cat (A.cat (ByteArray.mk (Array.mk [123])) w6) (ByteArray.mk (Array.mk [125])), 0))
   )
  )
noncomputable def label_Text (A : Ar) (x0 : List Label) : Option (ByteArray × Int) :=
 bd (label_Right A x0) fun w1 =>
 br (A.not w1) (
  some ((ByteArray.mk (Array.mk []), 1))
 ) (
  bd (label_marks A x0) fun w2 =>
  Loop (label_Text_B1 A w2) (([], 0))
 )
noncomputable def rules_ways (A : Ar) : Option Unit :=
 some ()
noncomputable def rules_Words_B1 (A : Ar) (x0 : Rule) (w2 : ByteArray × Int) : (List (U TyS.str)) × Int → Option (((List (U TyS.str)) × Int) ⊕ ((List ByteArray) × Int))
 | (out6, t38) =>
  br (A.cmp BinOp.lss t38 (A.len TyS.int [x0.4, x0.5, x0.6, x0.7])) (
   ck (A.inb t38 (A.len TyS.int [x0.4, x0.5, x0.6, x0.7])) <|
   bd (strconv_Itoa A (A.get TyS.int [x0.4, x0.5, x0.6, x0.7] t38)) fun w6 =>
   ck (A.appOk TyS.str 16 out6 [w6]) <|
   some (.inl ((A.app TyS.str out6 [w6], A.ar BinOp.add IntKind.i64 t38 1)))
  ) (
   rt (
    ck (A.appOk TyS.str 16 out6 [w2.1]) <|
    some ((A.app TyS.str out6 [w2.1], 0))
   )
  )
noncomputable def rules_Words (A : Ar) (x0 : Rule) : Option ((List ByteArray) × Int) :=
 bd (rules_Right A x0) fun w1 =>
 br (A.not w1) (
  some (([], 1))
 ) (
  bd (label_Text A x0.8) fun w2 =>
  bd (rules_ways A) fun w3 =>
  ck (A.inb x0.3 (Int.ofNat 6)) <|
  Loop (rules_Words_B1 A x0 w2) (([x0.1, x0.2, A.sel [ByteArray.mk (Array.mk []), ByteArray.mk (Array.mk [62]), ByteArray.mk (Array.mk [62, 61]), ByteArray.mk (Array.mk [60]), ByteArray.mk (Array.mk [60, 61]), ByteArray.mk (Array.mk [61, 61])] x0.3], 0))
 )
noncomputable def hours_two (A : Ar) (x0 : Int) : Option ByteArray :=
 ck (A.u8ok (A.conv IntKind.u8 (A.ar BinOp.add IntKind.i64 48 (A.ar BinOp.quo IntKind.i64 x0 10)))) <|
 ck (A.u8ok (A.conv IntKind.u8 (A.ar BinOp.add IntKind.i64 48 (A.ar BinOp.rem IntKind.i64 x0 10)))) <|
 some (A.b2s [A.u8 (A.conv IntKind.u8 (A.ar BinOp.add IntKind.i64 48 (A.ar BinOp.quo IntKind.i64 x0 10))), A.u8 (A.conv IntKind.u8 (A.ar BinOp.add IntKind.i64 48 (A.ar BinOp.rem IntKind.i64 x0 10)))])
noncomputable def hours_clock (A : Ar) (x0 : Int) : Option ByteArray :=
 bd (hours_two A (A.ar BinOp.quo IntKind.i64 x0 60)) fun w1 =>
 ck (A.catOk w1 (ByteArray.mk (Array.mk [58]))) <|
 bd (hours_two A (A.ar BinOp.rem IntKind.i64 x0 60)) fun w3 =>
 ck (A.catOk (A.cat w1 (ByteArray.mk (Array.mk [58]))) w3) <|
 some (A.cat (A.cat w1 (ByteArray.mk (Array.mk [58]))) w3)
noncomputable def hours_Text_B1 (A : Ar) (x0 : Hours) : (List (U TyS.str)) × Int → Option (((List (U TyS.str)) × Int) ⊕ (ByteArray × Int))
 | (l4, t11) =>
  br (A.cmp BinOp.lss t11 7) (
   ck (A.inb t11 (Int.ofNat 7)) <|
   ck (A.nn t11) <|
   br (A.cmp BinOp.eql (A.ar BinOp.and IntKind.i64 (A.ar BinOp.shr IntKind.i64 x0.2 t11) 1) 1) (
    ck (A.appOk TyS.str 16 l4 [A.sel [ByteArray.mk (Array.mk [109, 111, 110]), ByteArray.mk (Array.mk [116, 117, 101]), ByteArray.mk (Array.mk [119, 101, 100]), ByteArray.mk (Array.mk [116, 104, 117]), ByteArray.mk (Array.mk [102, 114, 105]), ByteArray.mk (Array.mk [115, 97, 116]), ByteArray.mk (Array.mk [115, 117, 110])] t11]) <|
    some (.inl ((A.app TyS.str l4 [A.sel [ByteArray.mk (Array.mk [109, 111, 110]), ByteArray.mk (Array.mk [116, 117, 101]), ByteArray.mk (Array.mk [119, 101, 100]), ByteArray.mk (Array.mk [116, 104, 117]), ByteArray.mk (Array.mk [102, 114, 105]), ByteArray.mk (Array.mk [115, 97, 116]), ByteArray.mk (Array.mk [115, 117, 110])] t11], A.ar BinOp.add IntKind.i64 t11 1)))
   ) (
    some (.inl ((l4, A.ar BinOp.add IntKind.i64 t11 1)))
   )
  ) (
   rt (
    bd (strings_Join A l4 (ByteArray.mk (Array.mk [44]))) fun w5 =>
    ck (A.catOk w5 (ByteArray.mk (Array.mk [32]))) <|
    bd (hours_clock A x0.3) fun w7 =>
    ck (A.catOk (A.cat w5 (ByteArray.mk (Array.mk [32]))) w7) <|
    ck (A.catOk (A.cat (A.cat w5 (ByteArray.mk (Array.mk [32]))) w7) (ByteArray.mk (Array.mk [45]))) <|
    bd (hours_clock A x0.4) fun w10 =>
    ck (A.catOk (A.cat (A.cat (A.cat w5 (ByteArray.mk (Array.mk [32]))) w7) (ByteArray.mk (Array.mk [45]))) w10) <|
    some ((A.cat (A.cat (A.cat (A.cat w5 (ByteArray.mk (Array.mk [32]))) w7) (ByteArray.mk (Array.mk [45]))) w10, 0))
   )
  )
noncomputable def hours_Text (A : Ar) (x0 : Hours) : Option (ByteArray × Int) :=
 bd (hours_Right A x0) fun w1 =>
 br (A.not w1) (
  some ((ByteArray.mk (Array.mk []), 1))
 ) (
  Loop (hours_Text_B1 A x0) (([], 0))
 )
noncomputable def config_route_S_B1 (A : Ar) (rf : Bool → Route → Option (ByteArray × Bool)) (x1 : Route) (t5 : List (U TyS.str)) : (List (U TyS.str)) × Int × Bool → Option (((List (U TyS.str)) × Int × Bool) ⊕ (ByteArray × Bool))
 | (t11, t56, b0_1000) =>
  br (A.cmp BinOp.lss t56 (A.len TyS.route x1.9)) (
   ck (A.inb t56 (A.len TyS.route x1.9)) <|
   bd (rf b0_1000 (A.get TyS.route x1.9 t56)) fun w8 =>
   ck (A.appOk TyS.str 16 t11 [w8.1]) <|
   some (.inl ((A.app TyS.str t11 [w8.1], A.ar BinOp.add IntKind.i64 t56 1, w8.2)))
  ) (
   rt (
    bd (config_bind A b0_1000 t11) fun w10 =>
    ck (A.appOk TyS.str 16 t5 [ByteArray.mk (Array.mk [49]), w10.1]) <|
    bd (config_bind A w10.2 (A.app TyS.str t5 [ByteArray.mk (Array.mk [49]), w10.1])) fun w12 =>
    some w12
   )
  )
noncomputable def config_route_S_B2 (A : Ar) (rf : Bool → Route → Option (ByteArray × Bool)) (x1 : Route) (t5 : List (U TyS.str)) : (List (U TyS.str)) × Int × Bool → Option (((List (U TyS.str)) × Int × Bool) ⊕ (ByteArray × Bool))
 | (t11, t56, b0_1000) =>
  br (A.cmp BinOp.lss t56 (A.len TyS.route x1.9)) (
   ck (A.inb t56 (A.len TyS.route x1.9)) <|
   bd (rf b0_1000 (A.get TyS.route x1.9 t56)) fun w14 =>
   ck (A.appOk TyS.str 16 t11 [w14.1]) <|
   some (.inl ((A.app TyS.str t11 [w14.1], A.ar BinOp.add IntKind.i64 t56 1, w14.2)))
  ) (
   rt (
    bd (config_bind A b0_1000 t11) fun w16 =>
    ck (A.appOk TyS.str 16 t5 [ByteArray.mk (Array.mk [48]), w16.1]) <|
    bd (config_bind A w16.2 (A.app TyS.str t5 [ByteArray.mk (Array.mk [48]), w16.1])) fun w18 =>
    some w18
   )
  )
noncomputable def config_route_S_B3 (A : Ar) (rf : Bool → Route → Option (ByteArray × Bool)) (x1 : Route) (w3 : ByteArray × Bool) : (List (U TyS.str)) × Int → Option (((List (U TyS.str)) × Int) ⊕ (ByteArray × Bool))
 | (t5, t37) =>
  br (A.cmp BinOp.lss t37 (A.len TyS.int [x1.4, x1.5, x1.6])) (
   ck (A.inb t37 (A.len TyS.int [x1.4, x1.5, x1.6])) <|
   bd (frame_Number A (A.get TyS.int [x1.4, x1.5, x1.6] t37)) fun w5 =>
   ck (A.appOk TyS.str 16 t5 [w5.1]) <|
   some (.inl ((A.app TyS.str t5 [w5.1], A.ar BinOp.add IntKind.i64 t37 1)))
  ) (
   rt (
    br (x1.8) (
     Loop (config_route_S_B1 A rf x1 t5) (([], 0, w3.2))
    ) (
     Loop (config_route_S_B2 A rf x1 t5) (([], 0, w3.2))
    )
   )
  )
noncomputable def config_route_S (A : Ar) (rf : Bool → Route → Option (ByteArray × Bool)) (x0 : Bool) (x1 : Route) : Option (ByteArray × Bool) :=
 bd (config_matchers A x0 x1.2) fun w1 =>
 bd (config_bind A w1.2 x1.3) fun w2 =>
 bd (config_bind A w2.2 x1.7) fun w3 =>
 Loop (config_route_S_B3 A rf x1 w3) (([x1.1, w1.1, w2.1, w3.1], 0))
noncomputable def config_route_N (A : Ar) : Nat → Bool → Route → Option (ByteArray × Bool)
 | 0, _, _ => none
 | n + 1, x0, x1 => config_route_S A (config_route_N A n) x0 x1
noncomputable def config_route (A : Ar) (x0 : Bool) (x1 : Route) : Option (ByteArray × Bool) := config_route_N A (SizeOf.sizeOf x1 + 1) x0 x1
noncomputable def config_Text_B1 (A : Ar) (w1 : Config × Int) (t7 : List (U TyS.str)) (t8 : List (U TyS.str)) : (List (U TyS.str)) × Int × Bool → Option (((List (U TyS.str)) × Int × Bool) ⊕ (ByteArray × Int))
 | (t9, t67, b0_6) =>
  br (A.cmp BinOp.lss t67 (A.len TyS.inhibit w1.1.4)) (
   ck (A.inb t67 (A.len TyS.inhibit w1.1.4)) <|
   bd (config_inhibit A b0_6 (A.get TyS.inhibit w1.1.4 t67)) fun w9 =>
   ck (A.appOk TyS.str 16 t9 [w9.1]) <|
   some (.inl ((A.app TyS.str t9 [w9.1], A.ar BinOp.add IntKind.i64 t67 1, w9.2)))
  ) (
   rt (
    bd (config_bind A b0_6 t7) fun w11 =>
    bd (config_bind A w11.2 w1.1.3) fun w12 =>
    bd (config_bind A w12.2 t8) fun w13 =>
    bd (config_bind A w13.2 t9) fun w14 =>
    bd (config_route A w14.2 w1.1.2) fun w15 =>
    bd (config_bind A w15.2 [w11.1, w12.1, w13.1, w14.1, w15.1]) fun w16 =>
    br (w16.2) (
     some ((ByteArray.mk (Array.mk []), 2))
    ) (
     some ((w16.1, 0))
    )
   )
  )
noncomputable def config_Text_B2 (A : Ar) (w1 : Config × Int) (t7 : List (U TyS.str)) : (List (U TyS.str)) × Int → Option (((List (U TyS.str)) × Int) ⊕ (ByteArray × Int))
 | (t8, t48) =>
  br (A.cmp BinOp.lss t48 (A.len TyS.hours w1.1.5)) (
   ck (A.inb t48 (A.len TyS.hours w1.1.5)) <|
   bd (hours_Text A (A.get TyS.hours w1.1.5 t48)) fun w6 =>
   ck (A.appOk TyS.str 16 t8 [(A.get TyS.hours w1.1.5 t48).1, w6.1]) <|
   some (.inl ((A.app TyS.str t8 [(A.get TyS.hours w1.1.5 t48).1, w6.1], A.ar BinOp.add IntKind.i64 t48 1)))
  ) (
   rt (
    Loop (config_Text_B1 A w1 t7 t8) (([], 0, false))
   )
  )
noncomputable def config_Text_B3 (A : Ar) (w1 : Config × Int) : (List (U TyS.str)) × Int → Option (((List (U TyS.str)) × Int) ⊕ (ByteArray × Int))
 | (t7, t32) =>
  br (A.cmp BinOp.lss t32 (A.len TyS.rule w1.1.1)) (
   ck (A.inb t32 (A.len TyS.rule w1.1.1)) <|
   bd (rules_Words A (A.get TyS.rule w1.1.1 t32)) fun w3 =>
   ck (A.appOk TyS.str 16 t7 w3.1) <|
   some (.inl ((A.app TyS.str t7 w3.1, A.ar BinOp.add IntKind.i64 t32 1)))
  ) (
   rt (
    Loop (config_Text_B2 A w1 t7) (([], 0))
   )
  )
noncomputable def config_Text (A : Ar) (x0 : Config) : Option (ByteArray × Int) :=
 bd (config_Normal A x0) fun w1 =>
 br (A.cmp BinOp.neq w1.2 0) (
  some ((ByteArray.mk (Array.mk []), w1.2))
 ) (
  Loop (config_Text_B3 A w1) (([], 0))
 )
noncomputable def transhipmentref01_Same_B1 (A : Ar) (x0 : List ByteArray) (x1 : List ByteArray) : Int → Option (Int ⊕ Bool)
 | t13 =>
  br (A.cmp BinOp.lss t13 (A.len TyS.str x0)) (
   ck (A.inb t13 (A.len TyS.str x0)) <|
   ck (A.inb t13 (A.len TyS.str x1)) <|
   br (A.scmp BinOp.neq (A.get TyS.str x0 t13) (A.get TyS.str x1 t13)) (
    rt (
     some false
    )
   ) (
    some (.inl (A.ar BinOp.add IntKind.i64 t13 1))
   )
  ) (
   rt (
    some true
   )
  )
noncomputable def transhipmentref01_Same (A : Ar) (x0 : List ByteArray) (x1 : List ByteArray) : Option Bool :=
 br (A.cmp BinOp.neq (A.len TyS.str x0) (A.len TyS.str x1)) (
  some false
 ) (
  Loop (transhipmentref01_Same_B1 A x0 x1) 0
 )
noncomputable def transhipmentref03_Same_B1 (A : Ar) (x0 : List Label) (x1 : List Label) : Int → Option (Int ⊕ Bool)
 | t13 =>
  br (A.cmp BinOp.lss t13 (A.len TyS.label x0)) (
   ck (A.inb t13 (A.len TyS.label x0)) <|
   ck (A.inb t13 (A.len TyS.label x1)) <|
   br (A.not (A.and (A.scmp BinOp.eql (A.get TyS.label x0 t13).1 (A.get TyS.label x1 t13).1) (A.and (A.scmp BinOp.eql (A.get TyS.label x0 t13).2 (A.get TyS.label x1 t13).2) true))) (
    rt (
     some false
    )
   ) (
    some (.inl (A.ar BinOp.add IntKind.i64 t13 1))
   )
  ) (
   rt (
    some true
   )
  )
noncomputable def transhipmentref03_Same (A : Ar) (x0 : List Label) (x1 : List Label) : Option Bool :=
 br (A.cmp BinOp.neq (A.len TyS.label x0) (A.len TyS.label x1)) (
  some false
 ) (
  Loop (transhipmentref03_Same_B1 A x0 x1) 0
 )
noncomputable def transhipmentref08_Like (A : Ar) (x0 : Rule) (x1 : Rule) : Option Bool :=
 bd (gd false (A.and (A.and (A.and (A.and (A.and (A.and (A.scmp BinOp.eql x0.1 x1.1) (A.scmp BinOp.eql x0.2 x1.2)) (A.cmp BinOp.eql x0.3 x1.3)) (A.cmp BinOp.eql x0.4 x1.4)) (A.cmp BinOp.eql x0.5 x1.5)) (A.cmp BinOp.eql x0.6 x1.6)) (A.cmp BinOp.eql x0.7 x1.7)) (transhipmentref03_Same A x0.8 x1.8)) fun w1 =>
 some (A.and (A.and (A.and (A.and (A.and (A.and (A.and (A.scmp BinOp.eql x0.1 x1.1) (A.scmp BinOp.eql x0.2 x1.2)) (A.cmp BinOp.eql x0.3 x1.3)) (A.cmp BinOp.eql x0.4 x1.4)) (A.cmp BinOp.eql x0.5 x1.5)) (A.cmp BinOp.eql x0.6 x1.6)) (A.cmp BinOp.eql x0.7 x1.7)) w1)
noncomputable def transhipmentref04_Sign (A : Ar) (x0 : Int) : Option ByteArray :=
 ck (A.inb x0 (A.len TyS.str [ByteArray.mk (Array.mk []), ByteArray.mk (Array.mk [61]), ByteArray.mk (Array.mk [33, 61]), ByteArray.mk (Array.mk [61, 126]), ByteArray.mk (Array.mk [33, 126])])) <|
 some (A.get TyS.str [ByteArray.mk (Array.mk []), ByteArray.mk (Array.mk [61]), ByteArray.mk (Array.mk [33, 61]), ByteArray.mk (Array.mk [61, 126]), ByteArray.mk (Array.mk [33, 126])] x0)
noncomputable def transhipmentref04_Text_B1 (A : Ar) (x0 : Matcher) : ByteArray × Int → Option ((ByteArray × Int) ⊕ ByteArray)
 | (out3, t16) =>
  br (A.cmp BinOp.lss t16 (A.len TyS.str x0.3)) (
   ck (A.inb t16 (A.len TyS.str x0.3)) <|
   br (A.cmp BinOp.gtr t16 0) (
    ck (A.catOk out3 (ByteArray.mk (Array.mk [124]))) <|
    ck (A.catOk (A.cat out3 (ByteArray.mk (Array.mk [124]))) (A.get TyS.str x0.3 t16)) <|
    some (.inl ((A.cat (A.cat out3 (ByteArray.mk (Array.mk [124]))) (A.get TyS.str x0.3 t16), A.ar BinOp.add IntKind.i64 t16 1)))
   ) (
    ck (A.catOk out3 (A.get TyS.str x0.3 t16)) <|
    some (.inl ((A.cat out3 (A.get TyS.str x0.3 t16), A.ar BinOp.add IntKind.i64 t16 1)))
   )
  ) (
   rt (
    ck (A.catOk out3 (ByteArray.mk (Array.mk [34]))) <|
    some (A.cat out3 (ByteArray.mk (Array.mk [34])))
   )
  )
noncomputable def transhipmentref04_Text (A : Ar) (x0 : Matcher) : Option ByteArray :=
 bd (transhipmentref04_Sign A x0.2) fun w1 =>
 ck (A.catOk x0.1 w1) <|
 ck (A.catOk (A.cat x0.1 w1) (ByteArray.mk (Array.mk [34]))) <|
 Loop (transhipmentref04_Text_B1 A x0) ((A.cat (A.cat x0.1 w1) (ByteArray.mk (Array.mk [34])), 0))
noncomputable def transhipmentref01_Number_B1 (A : Ar) : Int × (List (U TyS.byte)) → Option ((Int × (List (U TyS.byte))) ⊕ ByteArray)
 | (n0, b3) =>
  br (A.cmp BinOp.gtr n0 127) (
   ck (A.u8ok (A.conv IntKind.u8 (A.ar BinOp.add IntKind.i64 128 (A.ar BinOp.rem IntKind.i64 n0 128)))) <|
   ck (A.appOk TyS.byte 1 b3 [A.u8 (A.conv IntKind.u8 (A.ar BinOp.add IntKind.i64 128 (A.ar BinOp.rem IntKind.i64 n0 128)))]) <|
   some (.inl ((A.ar BinOp.quo IntKind.i64 n0 128, A.app TyS.byte b3 [A.u8 (A.conv IntKind.u8 (A.ar BinOp.add IntKind.i64 128 (A.ar BinOp.rem IntKind.i64 n0 128)))])))
  ) (
   rt (
    ck (A.u8ok (A.conv IntKind.u8 n0)) <|
    ck (A.appOk TyS.byte 1 b3 [A.u8 (A.conv IntKind.u8 n0)]) <|
    some (A.b2s (A.app TyS.byte b3 [A.u8 (A.conv IntKind.u8 n0)]))
   )
  )
noncomputable def transhipmentref01_Number (A : Ar) (x0 : Int) : Option ByteArray :=
 Loop (transhipmentref01_Number_B1 A) ((x0, []))
noncomputable def transhipmentref01_Bind_B1 (A : Ar) (x0 : List ByteArray) : ByteArray × Int → Option ((ByteArray × Int) ⊕ ByteArray)
 | (out3, t8) =>
  br (A.cmp BinOp.lss t8 (A.len TyS.str x0)) (
   ck (A.inb t8 (A.len TyS.str x0)) <|
   bd (transhipmentref01_Number A (A.slen (A.get TyS.str x0 t8))) fun w2 =>
   ck (A.catOk out3 w2) <|
   ck (A.catOk (A.cat out3 w2) (A.get TyS.str x0 t8)) <|
   some (.inl ((A.cat (A.cat out3 w2) (A.get TyS.str x0 t8), A.ar BinOp.add IntKind.i64 t8 1)))
  ) (
   rt (
    some out3
   )
  )
noncomputable def transhipmentref01_Bind (A : Ar) (x0 : List ByteArray) : Option ByteArray :=
 Loop (transhipmentref01_Bind_B1 A x0) ((ByteArray.mk (Array.mk []), 0))
noncomputable def transhipmentref10_Matchers_B1 (A : Ar) (x0 : List Matcher) : (List (U TyS.str)) × Int → Option (((List (U TyS.str)) × Int) ⊕ ByteArray)
 | (out3, t9) =>
  br (A.cmp BinOp.lss t9 (A.len TyS.matcher x0)) (
   ck (A.inb t9 (A.len TyS.matcher x0)) <|
   bd (transhipmentref04_Text A (A.get TyS.matcher x0 t9)) fun w2 =>
   ck (A.appOk TyS.str 16 out3 [w2]) <|
   some (.inl ((A.app TyS.str out3 [w2], A.ar BinOp.add IntKind.i64 t9 1)))
  ) (
   rt (
    bd (transhipmentref01_Bind A out3) fun w4 =>
    some w4
   )
  )
noncomputable def transhipmentref10_Matchers (A : Ar) (x0 : List Matcher) : Option ByteArray :=
 Loop (transhipmentref10_Matchers_B1 A x0) (([], 0))
noncomputable def transhipmentref10_Quiet (A : Ar) (x0 : Inhibit) : Option ByteArray :=
 bd (transhipmentref10_Matchers A x0.1) fun w1 =>
 bd (transhipmentref10_Matchers A x0.2) fun w2 =>
 bd (transhipmentref01_Bind A x0.3) fun w3 =>
 bd (transhipmentref01_Bind A [w1, w2, w3]) fun w4 =>
 some w4
noncomputable def transhipmentref04_Like (A : Ar) (x0 : Matcher) (x1 : Matcher) : Option Bool :=
 bd (gd false (A.and (A.scmp BinOp.eql x0.1 x1.1) (A.cmp BinOp.eql x0.2 x1.2)) (transhipmentref01_Same A x0.3 x1.3)) fun w1 =>
 some (A.and (A.and (A.scmp BinOp.eql x0.1 x1.1) (A.cmp BinOp.eql x0.2 x1.2)) w1)
noncomputable def transhipmentref09_Like_S_B1 (A : Ar) (rf : Route → Route → Option Bool) (x0 : Route) (x1 : Route) : Int → Option (Int ⊕ Bool)
 | t80 =>
  br (A.cmp BinOp.lss t80 (A.len TyS.route x0.9)) (
   ck (A.inb t80 (A.len TyS.route x0.9)) <|
   ck (A.inb t80 (A.len TyS.route x1.9)) <|
   bd (rf (A.get TyS.route x0.9 t80) (A.get TyS.route x1.9 t80)) fun w6 =>
   br (A.not w6) (
    rt (
     some false
    )
   ) (
    some (.inl (A.ar BinOp.add IntKind.i64 t80 1))
   )
  ) (
   rt (
    bd (transhipmentref01_Same A x0.3 x1.3) fun w7 =>
    bd (gd false (w7) (transhipmentref01_Same A x0.7 x1.7)) fun w8 =>
    some (A.and w7 w8)
   )
  )
noncomputable def transhipmentref09_Like_S_B2 (A : Ar) (rf : Route → Route → Option Bool) (x0 : Route) (x1 : Route) : Int → Option (Int ⊕ Bool)
 | t61 =>
  br (A.cmp BinOp.lss t61 (A.len TyS.matcher x0.2)) (
   ck (A.inb t61 (A.len TyS.matcher x0.2)) <|
   ck (A.inb t61 (A.len TyS.matcher x1.2)) <|
   bd (transhipmentref04_Like A (A.get TyS.matcher x0.2 t61) (A.get TyS.matcher x1.2 t61)) fun w3 =>
   br (A.not w3) (
    rt (
     some false
    )
   ) (
    some (.inl (A.ar BinOp.add IntKind.i64 t61 1))
   )
  ) (
   rt (
    Loop (transhipmentref09_Like_S_B1 A rf x0 x1) 0
   )
  )
noncomputable def transhipmentref09_Like_S (A : Ar) (rf : Route → Route → Option Bool) (x0 : Route) (x1 : Route) : Option Bool :=
 br (A.or (A.or (A.or (A.or (A.or (A.or (A.scmp BinOp.neq x0.1 x1.1) (A.cmp BinOp.neq x0.4 x1.4)) (A.cmp BinOp.neq x0.5 x1.5)) (A.cmp BinOp.neq x0.6 x1.6)) (A.not (A.eqb x0.8 x1.8))) (A.cmp BinOp.neq (A.len TyS.matcher x0.2) (A.len TyS.matcher x1.2))) (A.cmp BinOp.neq (A.len TyS.route x0.9) (A.len TyS.route x1.9))) (
  some false
 ) (
  Loop (transhipmentref09_Like_S_B2 A rf x0 x1) 0
 )
noncomputable def transhipmentref09_Like_N (A : Ar) : Nat → Route → Route → Option Bool
 | 0, _, _ => none
 | n + 1, x0, x1 => transhipmentref09_Like_S A (transhipmentref09_Like_N A n) x0 x1
noncomputable def transhipmentref09_Like (A : Ar) (x0 : Route) (x1 : Route) : Option Bool := transhipmentref09_Like_N A (SizeOf.sizeOf x0 + 1) x0 x1
noncomputable def transhipmentref10_Like_B1 (A : Ar) (x0 : Config) (x1 : Config) : Int → Option (Int ⊕ Bool)
 | t81 =>
  br (A.cmp BinOp.lss t81 (A.len TyS.inhibit x0.4)) (
   ck (A.inb t81 (A.len TyS.inhibit x0.4)) <|
   bd (transhipmentref10_Quiet A (A.get TyS.inhibit x0.4 t81)) fun w8 =>
   ck (A.inb t81 (A.len TyS.inhibit x1.4)) <|
   bd (transhipmentref10_Quiet A (A.get TyS.inhibit x1.4 t81)) fun w10 =>
   br (A.scmp BinOp.neq w8 w10) (
    rt (
     some false
    )
   ) (
    some (.inl (A.ar BinOp.add IntKind.i64 t81 1))
   )
  ) (
   rt (
    bd (transhipmentref09_Like A x0.2 x1.2) fun w11 =>
    some w11
   )
  )
noncomputable def transhipmentref10_Like_B2 (A : Ar) (x0 : Config) (x1 : Config) : Int → Option (Int ⊕ Bool)
 | t63 =>
  br (A.cmp BinOp.lss t63 (A.len TyS.hours x0.5)) (
   ck (A.inb t63 (A.len TyS.hours x0.5)) <|
   ck (A.inb t63 (A.len TyS.hours x1.5)) <|
   br (A.not (A.and (A.scmp BinOp.eql (A.get TyS.hours x0.5 t63).1 (A.get TyS.hours x1.5 t63).1) (A.and (A.cmp BinOp.eql (A.get TyS.hours x0.5 t63).2 (A.get TyS.hours x1.5 t63).2) (A.and (A.cmp BinOp.eql (A.get TyS.hours x0.5 t63).3 (A.get TyS.hours x1.5 t63).3) (A.and (A.cmp BinOp.eql (A.get TyS.hours x0.5 t63).4 (A.get TyS.hours x1.5 t63).4) true))))) (
    rt (
     some false
    )
   ) (
    some (.inl (A.ar BinOp.add IntKind.i64 t63 1))
   )
  ) (
   rt (
    Loop (transhipmentref10_Like_B1 A x0 x1) 0
   )
  )
noncomputable def transhipmentref10_Like_B3 (A : Ar) (x0 : Config) (x1 : Config) : Int → Option (Int ⊕ Bool)
 | t44 =>
  br (A.cmp BinOp.lss t44 (A.len TyS.rule x0.1)) (
   ck (A.inb t44 (A.len TyS.rule x0.1)) <|
   ck (A.inb t44 (A.len TyS.rule x1.1)) <|
   bd (transhipmentref08_Like A (A.get TyS.rule x0.1 t44) (A.get TyS.rule x1.1 t44)) fun w4 =>
   br (A.not w4) (
    rt (
     some false
    )
   ) (
    some (.inl (A.ar BinOp.add IntKind.i64 t44 1))
   )
  ) (
   rt (
    Loop (transhipmentref10_Like_B2 A x0 x1) 0
   )
  )
noncomputable def transhipmentref10_Like (A : Ar) (x0 : Config) (x1 : Config) : Option Bool :=
 bd (gd false (A.not (A.or (A.or (A.cmp BinOp.neq (A.len TyS.rule x0.1) (A.len TyS.rule x1.1)) (A.cmp BinOp.neq (A.len TyS.hours x0.5) (A.len TyS.hours x1.5))) (A.cmp BinOp.neq (A.len TyS.inhibit x0.4) (A.len TyS.inhibit x1.4)))) (transhipmentref01_Same A x0.3 x1.3)) fun w1 =>
 br (A.or (A.or (A.or (A.cmp BinOp.neq (A.len TyS.rule x0.1) (A.len TyS.rule x1.1)) (A.cmp BinOp.neq (A.len TyS.hours x0.5) (A.len TyS.hours x1.5))) (A.cmp BinOp.neq (A.len TyS.inhibit x0.4) (A.len TyS.inhibit x1.4))) (A.not w1)) (
  some false
 ) (
  Loop (transhipmentref10_Like_B3 A x0 x1) 0
 )
noncomputable def slices_EqualFunc_Matcher_Matcher_Matcher_Matcher_B1 (A : Ar) (x0 : List Matcher) (x1 : List Matcher) (q2 : Matcher → Matcher → Option Bool) : Int → Option (Int ⊕ Bool)
 | t17 =>
  br (A.cmp BinOp.lss t17 (A.len TyS.matcher x0)) (
   ck (A.inb t17 (A.len TyS.matcher x0)) <|
   ck (A.inb t17 (A.len TyS.matcher x1)) <|
   bd (q2 (A.get TyS.matcher x0 t17) (A.get TyS.matcher x1 t17)) fun w3 =>
   br (A.not w3) (
    rt (
     some false
    )
   ) (
    some (.inl (A.ar BinOp.add IntKind.i64 t17 1))
   )
  ) (
   rt (
    some true
   )
  )
noncomputable def slices_EqualFunc_Matcher_Matcher_Matcher_Matcher (A : Ar) (x0 : List Matcher) (x1 : List Matcher) (q2 : Matcher → Matcher → Option Bool) : Option Bool :=
 br (A.cmp BinOp.neq (A.len TyS.matcher x0) (A.len TyS.matcher x1)) (
  some false
 ) (
  Loop (slices_EqualFunc_Matcher_Matcher_Matcher_Matcher_B1 A x0 x1 q2) 0
 )
noncomputable def slices_Equal_string_string_B1 (A : Ar) (x0 : List ByteArray) (x1 : List ByteArray) : Int → Option (Int ⊕ Bool)
 | t13 =>
  br (A.cmp BinOp.lss t13 (A.len TyS.str x0)) (
   ck (A.inb t13 (A.len TyS.str x0)) <|
   ck (A.inb t13 (A.len TyS.str x1)) <|
   br (A.scmp BinOp.neq (A.get TyS.str x0 t13) (A.get TyS.str x1 t13)) (
    rt (
     some false
    )
   ) (
    some (.inl (A.ar BinOp.add IntKind.i64 t13 1))
   )
  ) (
   rt (
    some true
   )
  )
noncomputable def slices_Equal_string_string (A : Ar) (x0 : List ByteArray) (x1 : List ByteArray) : Option Bool :=
 br (A.cmp BinOp.neq (A.len TyS.str x0) (A.len TyS.str x1)) (
  some false
 ) (
  Loop (slices_Equal_string_string_B1 A x0 x1) 0
 )
noncomputable def matcher_Like (A : Ar) (x0 : Matcher) (x1 : Matcher) : Option Bool :=
 bd (gd false (A.and (A.scmp BinOp.eql x0.1 x1.1) (A.cmp BinOp.eql x0.2 x1.2)) (slices_Equal_string_string A x0.3 x1.3)) fun w1 =>
 some (A.and (A.and (A.scmp BinOp.eql x0.1 x1.1) (A.cmp BinOp.eql x0.2 x1.2)) w1)
noncomputable def config_Same_1 (A : Ar) (x0 : Inhibit) (x1 : Inhibit) : Option Bool :=
 bd (slices_EqualFunc_Matcher_Matcher_Matcher_Matcher A x0.1 x1.1 fun y0 y1 => matcher_Like A y0 y1) fun w1 =>
 bd (gd false (w1) (slices_EqualFunc_Matcher_Matcher_Matcher_Matcher A x0.2 x1.2 fun y0 y1 => matcher_Like A y0 y1)) fun w2 =>
 bd (gd false (A.and w1 w2) (slices_Equal_string_string A x0.3 x1.3)) fun w3 =>
 some (A.and (A.and w1 w2) w3)
noncomputable def slices_EqualFunc_Rule_Rule_Rule_Rule_B1 (A : Ar) (x0 : List Rule) (x1 : List Rule) (q2 : Rule → Rule → Option Bool) : Int → Option (Int ⊕ Bool)
 | t17 =>
  br (A.cmp BinOp.lss t17 (A.len TyS.rule x0)) (
   ck (A.inb t17 (A.len TyS.rule x0)) <|
   ck (A.inb t17 (A.len TyS.rule x1)) <|
   bd (q2 (A.get TyS.rule x0 t17) (A.get TyS.rule x1 t17)) fun w3 =>
   br (A.not w3) (
    rt (
     some false
    )
   ) (
    some (.inl (A.ar BinOp.add IntKind.i64 t17 1))
   )
  ) (
   rt (
    some true
   )
  )
noncomputable def slices_EqualFunc_Rule_Rule_Rule_Rule (A : Ar) (x0 : List Rule) (x1 : List Rule) (q2 : Rule → Rule → Option Bool) : Option Bool :=
 br (A.cmp BinOp.neq (A.len TyS.rule x0) (A.len TyS.rule x1)) (
  some false
 ) (
  Loop (slices_EqualFunc_Rule_Rule_Rule_Rule_B1 A x0 x1 q2) 0
 )
noncomputable def slices_Equal_Label_Label_B1 (A : Ar) (x0 : List Label) (x1 : List Label) : Int → Option (Int ⊕ Bool)
 | t13 =>
  br (A.cmp BinOp.lss t13 (A.len TyS.label x0)) (
   ck (A.inb t13 (A.len TyS.label x0)) <|
   ck (A.inb t13 (A.len TyS.label x1)) <|
   br (A.not (A.and (A.scmp BinOp.eql (A.get TyS.label x0 t13).1 (A.get TyS.label x1 t13).1) (A.and (A.scmp BinOp.eql (A.get TyS.label x0 t13).2 (A.get TyS.label x1 t13).2) true))) (
    rt (
     some false
    )
   ) (
    some (.inl (A.ar BinOp.add IntKind.i64 t13 1))
   )
  ) (
   rt (
    some true
   )
  )
noncomputable def slices_Equal_Label_Label (A : Ar) (x0 : List Label) (x1 : List Label) : Option Bool :=
 br (A.cmp BinOp.neq (A.len TyS.label x0) (A.len TyS.label x1)) (
  some false
 ) (
  Loop (slices_Equal_Label_Label_B1 A x0 x1) 0
 )
noncomputable def rules_Like (A : Ar) (x0 : Rule) (x1 : Rule) : Option Bool :=
 bd (slices_Equal_Label_Label A x0.8 x1.8) fun w1 =>
 some (A.and (A.and (A.and (A.and (A.and (A.and (A.and w1 (A.scmp BinOp.eql x0.1 x1.1)) (A.scmp BinOp.eql x0.2 x1.2)) (A.cmp BinOp.eql x0.3 x1.3)) (A.cmp BinOp.eql x0.4 x1.4)) (A.cmp BinOp.eql x0.5 x1.5)) (A.cmp BinOp.eql x0.6 x1.6)) (A.cmp BinOp.eql x0.7 x1.7))
noncomputable def slices_Equal_Hours_Hours_B1 (A : Ar) (x0 : List Hours) (x1 : List Hours) : Int → Option (Int ⊕ Bool)
 | t13 =>
  br (A.cmp BinOp.lss t13 (A.len TyS.hours x0)) (
   ck (A.inb t13 (A.len TyS.hours x0)) <|
   ck (A.inb t13 (A.len TyS.hours x1)) <|
   br (A.not (A.and (A.scmp BinOp.eql (A.get TyS.hours x0 t13).1 (A.get TyS.hours x1 t13).1) (A.and (A.cmp BinOp.eql (A.get TyS.hours x0 t13).2 (A.get TyS.hours x1 t13).2) (A.and (A.cmp BinOp.eql (A.get TyS.hours x0 t13).3 (A.get TyS.hours x1 t13).3) (A.and (A.cmp BinOp.eql (A.get TyS.hours x0 t13).4 (A.get TyS.hours x1 t13).4) true))))) (
    rt (
     some false
    )
   ) (
    some (.inl (A.ar BinOp.add IntKind.i64 t13 1))
   )
  ) (
   rt (
    some true
   )
  )
noncomputable def slices_Equal_Hours_Hours (A : Ar) (x0 : List Hours) (x1 : List Hours) : Option Bool :=
 br (A.cmp BinOp.neq (A.len TyS.hours x0) (A.len TyS.hours x1)) (
  some false
 ) (
  Loop (slices_Equal_Hours_Hours_B1 A x0 x1) 0
 )
noncomputable def slices_EqualFunc_Inhibit_Inhibit_Inhibit_Inhibit_B1 (A : Ar) (x0 : List Inhibit) (x1 : List Inhibit) (q2 : Inhibit → Inhibit → Option Bool) : Int → Option (Int ⊕ Bool)
 | t17 =>
  br (A.cmp BinOp.lss t17 (A.len TyS.inhibit x0)) (
   ck (A.inb t17 (A.len TyS.inhibit x0)) <|
   ck (A.inb t17 (A.len TyS.inhibit x1)) <|
   bd (q2 (A.get TyS.inhibit x0 t17) (A.get TyS.inhibit x1 t17)) fun w3 =>
   br (A.not w3) (
    rt (
     some false
    )
   ) (
    some (.inl (A.ar BinOp.add IntKind.i64 t17 1))
   )
  ) (
   rt (
    some true
   )
  )
noncomputable def slices_EqualFunc_Inhibit_Inhibit_Inhibit_Inhibit (A : Ar) (x0 : List Inhibit) (x1 : List Inhibit) (q2 : Inhibit → Inhibit → Option Bool) : Option Bool :=
 br (A.cmp BinOp.neq (A.len TyS.inhibit x0) (A.len TyS.inhibit x1)) (
  some false
 ) (
  Loop (slices_EqualFunc_Inhibit_Inhibit_Inhibit_Inhibit_B1 A x0 x1 q2) 0
 )
noncomputable def slices_EqualFunc_Route_Route_Route_Route_B1 (A : Ar) (x0 : List Route) (x1 : List Route) (q2 : Route → Route → Option Bool) : Int → Option (Int ⊕ Bool)
 | t17 =>
  br (A.cmp BinOp.lss t17 (A.len TyS.route x0)) (
   ck (A.inb t17 (A.len TyS.route x0)) <|
   ck (A.inb t17 (A.len TyS.route x1)) <|
   bd (q2 (A.get TyS.route x0 t17) (A.get TyS.route x1 t17)) fun w3 =>
   br (A.not w3) (
    rt (
     some false
    )
   ) (
    some (.inl (A.ar BinOp.add IntKind.i64 t17 1))
   )
  ) (
   rt (
    some true
   )
  )
noncomputable def slices_EqualFunc_Route_Route_Route_Route (A : Ar) (x0 : List Route) (x1 : List Route) (q2 : Route → Route → Option Bool) : Option Bool :=
 br (A.cmp BinOp.neq (A.len TyS.route x0) (A.len TyS.route x1)) (
  some false
 ) (
  Loop (slices_EqualFunc_Route_Route_Route_Route_B1 A x0 x1 q2) 0
 )
noncomputable def routes_Like_S (A : Ar) (rf : Route → Route → Option Bool) (x0 : Route) (x1 : Route) : Option Bool :=
 bd (gd false (A.and (A.and (A.and (A.and (A.scmp BinOp.eql x0.1 x1.1) (A.cmp BinOp.eql x0.4 x1.4)) (A.cmp BinOp.eql x0.5 x1.5)) (A.cmp BinOp.eql x0.6 x1.6)) (A.eqb x0.8 x1.8)) (slices_EqualFunc_Matcher_Matcher_Matcher_Matcher A x0.2 x1.2 fun y0 y1 => matcher_Like A y0 y1)) fun w1 =>
 bd (gd false (A.and (A.and (A.and (A.and (A.and (A.scmp BinOp.eql x0.1 x1.1) (A.cmp BinOp.eql x0.4 x1.4)) (A.cmp BinOp.eql x0.5 x1.5)) (A.cmp BinOp.eql x0.6 x1.6)) (A.eqb x0.8 x1.8)) w1) (slices_Equal_string_string A x0.3 x1.3)) fun w2 =>
 bd (gd false (A.and (A.and (A.and (A.and (A.and (A.and (A.scmp BinOp.eql x0.1 x1.1) (A.cmp BinOp.eql x0.4 x1.4)) (A.cmp BinOp.eql x0.5 x1.5)) (A.cmp BinOp.eql x0.6 x1.6)) (A.eqb x0.8 x1.8)) w1) w2) (slices_Equal_string_string A x0.7 x1.7)) fun w3 =>
 bd (gd false (A.and (A.and (A.and (A.and (A.and (A.and (A.and (A.scmp BinOp.eql x0.1 x1.1) (A.cmp BinOp.eql x0.4 x1.4)) (A.cmp BinOp.eql x0.5 x1.5)) (A.cmp BinOp.eql x0.6 x1.6)) (A.eqb x0.8 x1.8)) w1) w2) w3) (slices_EqualFunc_Route_Route_Route_Route A x0.9 x1.9 rf)) fun w4 =>
 some (A.and (A.and (A.and (A.and (A.and (A.and (A.and (A.and (A.scmp BinOp.eql x0.1 x1.1) (A.cmp BinOp.eql x0.4 x1.4)) (A.cmp BinOp.eql x0.5 x1.5)) (A.cmp BinOp.eql x0.6 x1.6)) (A.eqb x0.8 x1.8)) w1) w2) w3) w4)
noncomputable def routes_Like_N (A : Ar) : Nat → Route → Route → Option Bool
 | 0, _, _ => none
 | n + 1, x0, x1 => routes_Like_S A (routes_Like_N A n) x0 x1
noncomputable def routes_Like (A : Ar) (x0 : Route) (x1 : Route) : Option Bool := routes_Like_N A (SizeOf.sizeOf x0 + 1) x0 x1
noncomputable def config_Same (A : Ar) (x0 : Config) (x1 : Config) : Option Bool :=
 bd (config_Normal A x0) fun w1 =>
 bd (config_Normal A x1) fun w2 =>
 bd (slices_EqualFunc_Rule_Rule_Rule_Rule A w1.1.1 w2.1.1 fun y0 y1 => rules_Like A y0 y1) fun w3 =>
 bd (gd false (w3) (slices_Equal_string_string A w1.1.3 w2.1.3)) fun w4 =>
 bd (gd false (A.and w3 w4) (slices_Equal_Hours_Hours A w1.1.5 w2.1.5)) fun w5 =>
 bd (gd false (A.and (A.and (A.cmp BinOp.eql w1.2 0) (A.cmp BinOp.eql w2.2 0)) (A.and (A.and w3 w4) w5)) (slices_EqualFunc_Inhibit_Inhibit_Inhibit_Inhibit A w1.1.4 w2.1.4 fun y0 y1 => config_Same_1 A y0 y1)) fun w6 =>
 bd (gd false (A.and (A.and (A.and (A.cmp BinOp.eql w1.2 0) (A.cmp BinOp.eql w2.2 0)) (A.and (A.and w3 w4) w5)) w6) (routes_Like A w1.1.2 w2.1.2)) fun w7 =>
 some (A.and (A.and (A.and (A.and (A.cmp BinOp.eql w1.2 0) (A.cmp BinOp.eql w2.2 0)) (A.and (A.and w3 w4) w5)) w6) w7)
noncomputable def transhipmentlaw10_ConfigOrders (A : Ar) (x0 : Config) (x1 : Int) : Option Bool :=
 bd (transhipmentlaw10_big A x0) fun w1 =>
 bd (gd false (A.not w1) (config_Right A x0)) fun w2 =>
 br (A.or w1 (A.not w2)) (
  bd (transhipmentlaw10_alive A) fun w3 =>
  some w3
 ) (
  bd (transhipmentlaw10_turned_Rule A x0.1 x1) fun w4 =>
  bd (transhipmentlaw10_turned_string A x0.3 x1) fun w5 =>
  bd (transhipmentlaw10_turned_Inhibit A x0.4 x1) fun w6 =>
  bd (transhipmentlaw10_turned_Hours A x0.5 x1) fun w7 =>
  br (A.and (A.cmp BinOp.gtr (A.len TyS.inhibit w6) 0) (A.cmp BinOp.lss (A.len TyS.inhibit w6) 8)) (
   ck (A.appOk TyS.inhibit 72 [] w6) <|
   ck (A.inb 0 (A.len TyS.inhibit w6)) <|
   ck (A.appOk TyS.inhibit 72 (A.app TyS.inhibit [] w6) [A.get TyS.inhibit w6 0]) <|
   bd (config_Normal A x0) fun w11 =>
   bd (config_Normal A (Config.mk w4 x0.2 w5 (A.app TyS.inhibit (A.app TyS.inhibit [] w6) [A.get TyS.inhibit w6 0]) w7)) fun w12 =>
   bd (config_Normal A w11.1) fun w13 =>
   bd (config_Text A x0) fun w14 =>
   bd (config_Text A (Config.mk w4 x0.2 w5 (A.app TyS.inhibit (A.app TyS.inhibit [] w6) [A.get TyS.inhibit w6 0]) w7)) fun w15 =>
   bd (transhipmentlaw10_alive A) fun w16 =>
   bd (gd false (A.and (A.and (A.and w16 (A.cmp BinOp.eql w11.2 0)) (A.cmp BinOp.eql w12.2 0)) (A.cmp BinOp.eql w13.2 0)) (transhipmentref10_Like A w11.1 w12.1)) fun w17 =>
   bd (gd false (A.and (A.and (A.and (A.and w16 (A.cmp BinOp.eql w11.2 0)) (A.cmp BinOp.eql w12.2 0)) (A.cmp BinOp.eql w13.2 0)) w17) (transhipmentref10_Like A w11.1 w13.1)) fun w18 =>
   bd (gd false (A.and (A.and (A.and (A.and (A.and w16 (A.cmp BinOp.eql w11.2 0)) (A.cmp BinOp.eql w12.2 0)) (A.cmp BinOp.eql w13.2 0)) w17) w18) (config_Same A x0 (Config.mk w4 x0.2 w5 (A.app TyS.inhibit (A.app TyS.inhibit [] w6) [A.get TyS.inhibit w6 0]) w7))) fun w19 =>
   some (A.and (A.and (A.and (A.and (A.and (A.and (A.and (A.and w16 (A.cmp BinOp.eql w11.2 0)) (A.cmp BinOp.eql w12.2 0)) (A.cmp BinOp.eql w13.2 0)) w17) w18) w19) (A.cmp BinOp.eql w14.2 w15.2)) (A.scmp BinOp.eql w14.1 w15.1))
  ) (
   bd (config_Normal A x0) fun w20 =>
   bd (config_Normal A (Config.mk w4 x0.2 w5 w6 w7)) fun w21 =>
   bd (config_Normal A w20.1) fun w22 =>
   bd (config_Text A x0) fun w23 =>
   bd (config_Text A (Config.mk w4 x0.2 w5 w6 w7)) fun w24 =>
   bd (transhipmentlaw10_alive A) fun w25 =>
   bd (gd false (A.and (A.and (A.and w25 (A.cmp BinOp.eql w20.2 0)) (A.cmp BinOp.eql w21.2 0)) (A.cmp BinOp.eql w22.2 0)) (transhipmentref10_Like A w20.1 w21.1)) fun w26 =>
   bd (gd false (A.and (A.and (A.and (A.and w25 (A.cmp BinOp.eql w20.2 0)) (A.cmp BinOp.eql w21.2 0)) (A.cmp BinOp.eql w22.2 0)) w26) (transhipmentref10_Like A w20.1 w22.1)) fun w27 =>
   bd (gd false (A.and (A.and (A.and (A.and (A.and w25 (A.cmp BinOp.eql w20.2 0)) (A.cmp BinOp.eql w21.2 0)) (A.cmp BinOp.eql w22.2 0)) w26) w27) (config_Same A x0 (Config.mk w4 x0.2 w5 w6 w7))) fun w28 =>
   some (A.and (A.and (A.and (A.and (A.and (A.and (A.and (A.and w25 (A.cmp BinOp.eql w20.2 0)) (A.cmp BinOp.eql w21.2 0)) (A.cmp BinOp.eql w22.2 0)) w26) w27) w28) (A.cmp BinOp.eql w23.2 w24.2)) (A.scmp BinOp.eql w23.1 w24.1))
  )
 )
end Go.PL
