/- What the proofs of this claim share, part 1. No conditions. -/
import Derived.WalkKit
import Derived.WalkSpells
import Derived.WalkLawsBesides
import Derived.ProofKit
import Derived.SizedLaws
import Derived.OpenShut
set_option linter.all false
namespace Go.Proofs.YtjlkgfeepocjfaaGreatDoor
open Go.RowKit Go.ChangeShapes Go.WideShapes
variable {i:Nat}
section
variable {a b c w:World}
theorem Au (h:Below a.heap.size a w) (o:Obj):Below a.heap.size a (w.alloc o):=h.alloc h.size o
theorem Vr (h:Below a.heap.size a w) (n:Nat):Below a.heap.size a (w.drewN n):=below_drewN h n
theorem AcU (h:Below a.heap.size a w) {p:Addr} (hp:a.heap.size≤p.block) (u:Value):Below a.heap.size a (w.setCell p u):=h.setCell hp u
theorem Zo {W w1:World} {n m:Nat} (hb:Below n W w1) (hm:m≤n) (hs:m≤W.heap.size):(∀ b o,b<m→w1.cell? ⟨b,o,none⟩=W.cell? ⟨b,o,none⟩)∧(∀ b o,b<m→w1.frozen? ⟨b,o,none⟩=W.frozen? ⟨b,o,none⟩)∧(∀ b,b<m→b<w1.heap.size)∧m≤w1.heap.size :=
 ⟨fun b o h=>hb.cell (p:=⟨b,o,none⟩) (Nat.lt_of_lt_of_le h hm),fun b o h=>hb.frozen (p:=⟨b,o,none⟩) (Nat.lt_of_lt_of_le h hm),fun _ h=>Nat.lt_of_lt_of_le h (Nat.le_trans hs hb.size),Nat.le_trans hs hb.size⟩
end
@[go_sem high] theorem XJ {P:Program} {w:World} (ts:Array TypeId) (t:TypeId) (k k':IntKind) (x y:Int):(Builtin.min_ ts t #[.int k x,.int k' y]).run P w=.ok (.int k (min x y)) w:=by
 rw [run_min_int2]
 congr 2
 split <;> omega
@[go_sem high] theorem XK {P:Program} {w:World} (ts:Array TypeId) (t:TypeId) (k k':IntKind) (x y:Int):(Builtin.max_ ts t #[.int k x,.int k' y]).run P w=.ok (.int k (max x y)) w:=by
 rw [run_max_int2]
 congr 2
 split <;> omega
theorem AcV {k:IntKind} {a b:Int} (h:a=b):Ending.returned (.int k a)=.returned (.int k b):=by rw [h]
theorem Zp {a b:Bool} (h:a=b):Ending.returned (.bool a)=.returned (.bool b):=by rw [h]
theorem Abg {n:Int} (h1 : -9223372036854775808≤n) (h2:n≤9223372036854775807):wrap64 n=n:=IntWalk.wrap64_in n ⟨h1,h2⟩
theorem gS {α:Type} {l:List α} {a:α}:l[i]?=some a ↔∃h,l[i]'h=a:=List.getElem?_eq_some_iff
theorem gE {α:Type} {l:List α} (h:i<l.length):l[i]?=some l[i]:=List.getElem?_eq_getElem h
theorem gM {α:Type} {l:List α} {a:α} (h:l[i]?=some a):a∈l:=List.mem_of_getElem? h
theorem lT {a b c:Nat} (h:a≤b) (k:b≤c):a≤c:=Nat.le_trans h k
abbrev aa:=@Nat.le_refl
abbrev ad:=@List.length_map
abbrev af:=@Nat.zero_le
abbrev ag:=@List.getElem?_map
abbrev ah:=@Below.refl
abbrev ai:=@Sem.run_bind
abbrev aj:=@Bool.and_eq_true
abbrev ak:=@List.take_add_one
abbrev am:=@List.take_of_length_le
abbrev aq:=@List.length_append
abbrev ar:=@Int.toNat_natCast
abbrev au:=@Nat.lt_of_lt_of_le
abbrev av:=@List.append_nil
abbrev aw:=@Nat.mul_assoc
abbrev ax:=@Nat.zero_add
abbrev ay:=@Nat.mul_comm
abbrev az:=@List.take_length
abbrev ba:=@Nat.pow_le_pow_right
abbrev bc:=@Int.mul_assoc
abbrev bd:=@Result.andThen_ok
abbrev bf:=@Nat.lt_or_ge
abbrev bg:=@Option.getD_some
abbrev bh:=@Nat.pow_add
abbrev bi:=@Int.pow_add
abbrev bj:=@List.eq_nil_of_length_eq_zero
abbrev bk:=@Sem.run_pure
abbrev bl:=@Nat.le_of_ble_eq_true
abbrev bo:=@Nat.add_mul
abbrev bp:=@Option.map_some
abbrev bq:=@List.getElem?_take
abbrev br:=@List.map_cons
abbrev bt:=@Nat.two_pow_pos
abbrev bu:=@List.getElem?_set
abbrev bw:=@List.map_map
abbrev bz:=@Classical.byContradiction
abbrev ce:=@Nat.pow_succ
abbrev ci:=@Bool.not_eq_true
abbrev cj:=@List.length_take
abbrev ck:=@Int.le_of_lt
abbrev cn:=@List.getElem?_drop
abbrev co:=@Nat.eq_zero_or_pos
abbrev cq:=@List.length_cons
abbrev cr:=@List.range_succ
abbrev ct:=@List.map_append
abbrev cw:=@List.map_congr_left
abbrev cz:=@Nat.mul_one
abbrev dc:=@List.set_cons_zero
abbrev de:=@Bool.or_eq_true
abbrev df:=@List.set_cons_succ
abbrev dg:=@Option.map_eq_some_iff
abbrev dh:=@Int.le_refl
abbrev di:=@Nat.eq_of_beq_eq_true
abbrev dj:=@List.mem_iff_getElem
abbrev dk:=@List.getElem?_append_left
abbrev dm:=@List.drop_eq_getElem_cons
abbrev dn:=@Bool.false_eq_true
abbrev dp:=@Nat.le_of_eq
abbrev dq:=@List.getElem?_of_mem
abbrev dr:=@Option.toList_some
abbrev dt:=@List.getElem?_append_right
abbrev du:=@Nat.mul_le_mul
abbrev dv:=@Nat.add_zero
abbrev dw:=@List.length_set
abbrev dz:=@List.length_replicate
abbrev ea:=@List.nil_append
abbrev eb:=@List.getElem?_cons_zero
abbrev ed:=@List.getElem?_set_self
abbrev ee:=@Bool.not_true
abbrev ef:=@List.setIfInBounds_toArray
abbrev eg:=@Bool.true_and
abbrev eh:=@List.mem_of_mem_take
abbrev ei:=@Nat.min_eq_left
abbrev ej:=@Int.neg_mul
abbrev ek:=@Nat.div_add_mod
abbrev em:=@Nat.sub_self
abbrev en:=@Nat.beq_refl
abbrev eo:=@List.mem_append
abbrev ep:=@Nat.zero_mul
abbrev et:=@List.mem_cons
abbrev ew:=@List.not_mem_nil
abbrev fa:=@Nat.add_le_add
abbrev fb:=@Array.getElem?_eq_none
abbrev fe:=@Nat.mul_add
abbrev ff:=@List.getElem_mem
abbrev fg:=@List.getElem?_eq_none
abbrev fh:=@Int.eq_ofNat_of_zero_le
abbrev fi:=@List.getElem?_cons_succ
abbrev fj:=@Bool.false_or
abbrev fk:=@List.ext_getElem?
abbrev fm:=@Nat.not_lt_zero
abbrev fo:=@List.mem_map_of_mem
abbrev fp:=@Bool.not_false
abbrev fq:=@Int.mul_le_mul_of_nonneg_right
abbrev fu:=@List.drop_eq_nil_of_le
abbrev fv:=@Int.mul_comm
abbrev fw:=@Int.natAbs_mul
abbrev fx:=@Int.natAbs_pow
abbrev fy:=@Nat.mod_lt
abbrev fz:=@List.map_nil
abbrev ga:=@Array.getElem?_eq_getElem
abbrev gb:=@Array.ext'
abbrev gc:=@List.mem_range
abbrev gd:=@List.ext_getElem
abbrev gg:=@List.flatten_cons
abbrev gh:=@List.take_append_drop
abbrev gj:=@List.map_set
abbrev gk:=@IntKind.wrap_u64
abbrev gl:=@Oper.upon_enter
abbrev gm:=@List.getElem?_set_ne
abbrev gn:=@List.length_filter_le
abbrev gp:=@List.mem_cons_self
abbrev gq:=@List.mem_cons_of_mem
abbrev gr:=@Nat.add_assoc
abbrev gu:=@Nat.mul_le_mul_left
abbrev gx:=@Nat.pow_mul
abbrev gy:=@Nat.div_eq_of_lt
abbrev ia:=@Nat.mod_eq_of_lt
abbrev ic:=@Nat.lt_of_le_of_lt
abbrev ig:=@Array.getD_eq_getD_getElem?
abbrev ii:=@List.all_cons
abbrev ij:=@Array.toList_append
abbrev ik:=@List.take_zero
abbrev il:=@DataW.trod_struct
abbrev im:=@Bool.false_and
abbrev io:=@List.foldl_append
abbrev iq:=@List.mem_filter
abbrev ir:=@Bool.true_or
abbrev iu:=@Nat.add_mul_div_left
abbrev iv:=@Nat.pow_succ'
abbrev iy:=@List.prefix_refl
abbrev iz:=@List.length_drop
abbrev ja:=@Int.natCast_mul
abbrev jb:=@List.mem_map
abbrev jc:=@Act.put_comm
abbrev jd:=@Int.mul_nonneg
abbrev je:=@Bool.or_eq_false_iff
abbrev jf:=@Int.ne_of_gt
abbrev jg:=@Int.mul_right_comm
abbrev jh:=@List.getElem?_range
abbrev ji:=@Below.heap_setCell
abbrev jj:=@List.length_range
abbrev jk:=@List.drop_left
abbrev jl:=@List.append_assoc
abbrev jm:=@Bool.not_eq_false
abbrev jn:=@World.ownsRow_nil
abbrev jo:=@Nat.mul_le_mul_right
abbrev jp:=@Nat.div_lt_iff_lt_mul
abbrev jq:=@Nat.mul_lt_mul_of_pos_right
abbrev jr:=@List.getElem?_replicate
abbrev js:=@List.map_toArray
abbrev jt:=@List.drop_length
abbrev ju:=@List.drop_zero
abbrev jv:=@List.mem_of_mem_drop
abbrev jw:=@Array.any_eq_true'
abbrev jx:=@Array.mem_of_getElem?
abbrev jy:=@List.size_toArray
abbrev jz:=@List.mapM_cons
abbrev kb:=@Array.toArray_toList
abbrev kc:=@List.mapM_toArray
abbrev ke:=@IntWalk.i64_in
abbrev kg:=@Array.toList_map
abbrev kh:=@List.getElem?_modify
abbrev ki:=@List.take_append_of_le_length
abbrev kj:=@List.getElem?_take_of_lt
abbrev ko:=@List.getElem_map
abbrev kp:=@Int.mul_neg_of_neg_of_pos
abbrev ks:=@List.filter_append
abbrev kt:=@List.mem_or_eq_of_mem_set
abbrev ku:=@BitVec.toNat_ofNat
abbrev kw:=@Int.eq_of_mul_eq_mul_right
abbrev kx:=@List.drop_drop
abbrev ky:=@List.replicate_succ
abbrev kz:=@Nat.div_div_eq_div_mul
abbrev lc:=@IntKind.wrap_u32
abbrev ld:=@IntKind.wrap_i64
abbrev lg:=@List.replicate_zero
abbrev lh:=@Bool.not_eq_true'
abbrev li:=@List.prefix_append
abbrev lj:=@Array.length_toList
abbrev lk:=@List.getElem?_toArray
abbrev ll:=@List.filter_cons
abbrev lr:=@List.getElem_range
abbrev ma:=@BitVec.msb_eq_decide
abbrev mb:=@List.all_eq_false
abbrev mc:=@Nat.exists_eq_succ_of_ne_zero
abbrev me:=@Nat.mul_div_cancel_left
abbrev mf:=@Int.mul_lt_mul_of_pos_right
abbrev mh:=@Int.mul_le_mul_of_nonneg_left
end Go.Proofs.YtjlkgfeepocjfaaGreatDoor
