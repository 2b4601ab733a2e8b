/- B1: Ua Ub Uc Ud0 Ud Ue Uf Ug Uh Ui Uj Uk Ur Us Ut (merged by merge2.py from the working texts). -/
import Derived.WalkKit
import Derived.StillTail
import Derived.Deep.LoopGhost
import Derived.LoopNIn
import Derived.LoopN
import Derived.OrdersIn
import Derived.RangeFuncCalls
import Derived.Scope
set_option linter.unusedSimpArgs false
set_option linter.unnecessarySimpa false
set_option linter.unusedVariables false
set_option linter.unusedSectionVars false
namespace Uw
abbrev aaw:=@List.length_append
abbrev aax:=@Nat.le_refl
abbrev aay:=@Bool.and_eq_true
abbrev aaz:=@List.take_succ_eq_append_getElem
abbrev aaA:=@List.length_cons
abbrev aaB:=@Nat.eq_of_beq_eq_true
abbrev aaC:=@Option.map_eq_some_iff
abbrev aaD:=@List.append_assoc
abbrev aaE:=@List.cons_append
abbrev aaF:=@Nat.zero_add
abbrev aaG:=@List.take_of_length_le
abbrev aaH:=@List.getElem?_take
abbrev aaI:=@List.tail_drop
abbrev aaJ:=@List.getElem?_eq_none
abbrev aaK:=@List.take_length
abbrev aaL:=@List.mem_cons_of_mem
abbrev aaM:=@List.eq_nil_of_length_eq_zero
abbrev aaN:=@List.mem_cons
abbrev aaO:=@Nat.le_of_ble_eq_true
abbrev aaP:=@Option.some.injEq
abbrev aaQ:=@List.getElem_mem
abbrev aaR:=@List.mem_of_getElem?
abbrev aaS:=@List.all_eq_true
abbrev aaT:=@List.length_map
abbrev aaU:=@List.getElem?_eq_getElem
abbrev aaV:=@List.mem_cons_self
abbrev aaW:=@List.drop_eq_getElem_cons
abbrev aaX:=@Bool.false_eq_true
abbrev aaY:=@List.getElem?_append_left
abbrev aaZ:=@List.mem_append
abbrev aa0:=@List.getElem?_eq_some_iff
abbrev aa1:=@List.takeWhile_cons
abbrev aa2:=@Nat.lt_or_ge
abbrev aa3:=@List.length_nil
abbrev aa4:=@List.getElem?_append_right
abbrev aa5:=@List.length_take
abbrev aa6:=@List.append_nil
abbrev aa7:=@Nat.le_trans
abbrev aa8:=@List.mem_iff_getElem
abbrev aa9:=@List.drop_zero
abbrev abb:=@Nat.add_mul
abbrev abd:=@List.take_succ_cons
abbrev abe:=@Nat.mul_le_mul_right
abbrev abf:=@Prod.mk.injEq
abbrev abg:=@Bool.or_eq_true
abbrev abh:=@List.drop_eq_nil_of_le
abbrev abj:=@Bool.or_eq_false_iff
abbrev abk:=@List.flatMap_cons
abbrev abl:=@Nat.lt_of_lt_of_le
abbrev abm:=@List.perm_iff_count
abbrev abn:=@List.map_append
abbrev abo:=@List.count_append
abbrev abp:=@List.any_eq_false
abbrev abq:=@List.getElem?_drop
abbrev abr:=@Nat.zero_le
abbrev abt:=@List.mem_append_right
abbrev abu:=@List.mem_map
abbrev abv:=@Bool.eq_iff_iff
abbrev abw:=@Nat.add_assoc
abbrev abx:=@List.count_cons
abbrev aby:=@List.findIdx?_eq_some_iff_getElem
abbrev abz:=@List.eq_of_mem_replicate
abbrev abA:=@List.length_replicate
abbrev abB:=@List.flatten_cons
abbrev abC:=@Array.getD_eq_getD_getElem?
abbrev abD:=@List.mem_of_mem_take
abbrev abE:=@List.cons.injEq
abbrev abG:=@List.map_cons
abbrev abH:=@List.count_nil
abbrev abI:=@Nat.le_mul_of_pos_right
abbrev abJ:=@List.getElem?_cons_succ
abbrev abK:=@List.any_eq_true
abbrev abL:=@Array.getElem?_eq_some_iff
abbrev abM:=@List.take_append_drop
abbrev abN:=@List.mem_replicate
abbrev abO:=@List.append_cancel_right
abbrev abP:=@List.mem_of_mem_drop
abbrev abQ:=@List.foldl_cons
abbrev abR:=@List.length_pos_iff
abbrev abS:=@List.flatMap_append
abbrev abT:=@Nat.add_zero
abbrev abU:=@Array.getElem?_eq_none
abbrev abV:=@List.mem_range
abbrev abW:=@List.mem_iff_getElem?
abbrev abX:=@Nat.add_comm
abbrev abY:=@List.size_toArray
abbrev abZ:=@List.mem_of_mem_tail
abbrev ab1:=@List.getElem?_set
abbrev ab2:=@List.foldl_append
abbrev ab3:=@List.ext_getElem?
abbrev ab4:=@Array.size_append
abbrev ab5:=@List.drop_succ_cons
abbrev ab6:=@List.dropWhile_cons
abbrev ab7:=@List.set_cons_succ
abbrev ab8:=@List.getElem_cons_zero
abbrev ab9:=@Nat.not_lt_zero
abbrev acd:=@List.nil_append
abbrev ace:=@Bool.decide_and
abbrev acf:=@Array.getElem?_toList
abbrev acg:=@List.getElem?_map
abbrev ach:=@List.drop_drop
abbrev aci:=@Nat.le_of_not_lt
abbrev acj:=@List.mem_or_eq_of_mem_set
abbrev acn:=@List.append_toArray
abbrev aco:=@Array.toList_append
abbrev acp:=@Option.isSome_iff_exists
abbrev acr:=@List.length_set
abbrev acs:=@List.set_cons_zero
abbrev acu:=@Nat.sub_self
abbrev acv:=@List.nodup_append
abbrev acw:=@Bool.false_and
abbrev acy:=@Bool.eq_false_iff
abbrev acz:=@List.ext_getElem
abbrev acA:=@Array.toList_map
abbrev acB:=@Bool.true_and
abbrev acC:=@List.getElem?_of_mem
abbrev acD:=@Option.map_none
abbrev acE:=@Nat.min_eq_left
abbrev acF:=@List.nodup_cons
abbrev acG:=@Array.getElem?_setIfInBounds
abbrev acH:=@List.replicate_succ
abbrev acI:=@Array.length_toList
abbrev acJ:=@List.nodup_iff_pairwise_ne
abbrev acK:=@Bool.and_false
abbrev acL:=@List.pairwise_iff_getElem
abbrev acM:=@Int.toNat_natCast
abbrev acN:=@Bool.not_eq_true'
abbrev acO:=@List.getElem_append_left
abbrev acP:=@List.all_cons
abbrev acQ:=@List.not_mem_nil
abbrev acR:=@List.mem_flatMap
abbrev acS:=@Nat.sub_zero
abbrev acT:=@Nat.beq_refl
abbrev acU:=@List.map_map
abbrev acV:=@UInt8.toNat.inj
abbrev acW:=@Option.some.inj
abbrev acX:=@List.length_zip
abbrev acY:=@List.countP_le_length
abbrev acZ:=@Nat.mul_one
abbrev ac0:=@List.nodup_nil
abbrev ac1:=@List.mem_append_left
abbrev ac2:=@List.flatten_append
abbrev ac3:=@Nat.lt_of_le_of_lt
abbrev ac4:=@List.mem_singleton
abbrev ac5:=@Array.foldl_toList
abbrev ac6:=@List.take_add_one
abbrev ac7:=@List.map_set
abbrev ac8:=@List.mem_reverse
abbrev ac9:=@List.mem_flatten
abbrev ada:=@List.getElem_zip
abbrev adb:=@List.getElem_map
abbrev ade:=@List.eq_nil_iff_forall_not_mem
abbrev adf:=@Int.mul_le_mul_of_nonneg_left
abbrev adg:=@UInt8.toNat_inj
abbrev adh:=@Option.map_some
abbrev adi:=@List.dropLast_concat_getLast
abbrev adk:=@List.drop_length_add_append
abbrev adl:=@Option.none_or
abbrev adn:=@List.take_left
abbrev ado:=@List.drop_take
abbrev adp:=@Array.toList_setIfInBounds
abbrev adq:=@List.mem_take_iff_getElem
abbrev adr:=@List.getElem_append_right
abbrev ads:=@List.findIdx?_eq_none_iff
abbrev adt:=@List.sum_cons
abbrev adu:=@Nat.zero_mul
abbrev adv:=@List.getElem_cons_succ
abbrev adw:=@Int.le_trans
abbrev adx:=@Nat.ble_eq_true_of_le
abbrev ady:=@List.takeWhile_prefix
abbrev adz:=@List.length_filter_le
abbrev adA:=@List.countP_singleton
open Go
inductive Dat where
 | bool (b:Bool)
 | int (k:IntKind) (n:Int)
 | str (s:List UInt8)
 | nil
 | slice (k:Nat) (xs:List (List Dat)) (z:Bool)
 | agg (cs:List Dat)
 | func (f:FuncId)
 | nilFunc
 | nilIface
 | nilPtr
 | bg
 | iface (t:TypeId) (d:Dat)
 | tuple (ds:List Dat)
 deriving Inhabited
inductive V where
 | d (x:Dat)
 | ptr (id off:Nat)
 | ro (cs:List Dat) (off:Nat)
 | nu (id ver i c:Nat)
 | ref (id ver off len:Nat)
 | agg (cs:List V)
 | func (f:FuncId) (first cap:List V)
 | tuple (vs:List V)
 | hnd (id:Nat)
 | row (id len:Nat)
 | undef
 deriving Inhabited
inductive oC where
 | i (n:Int)
 | s (b:List UInt8)
 deriving DecidableEq,Inhabited
inductive Blk where
 | var (cs:List V)
 | arr (k:Nat) (xs:List (List Dat))
 | mt (k ver:Nat) (xs:List (List Dat))
 | iter (s:List UInt8) (pos:Nat)
 | map (kk:Option IntKind) (es:List (oC×Dat))
 deriving Inhabited
abbrev gw:=List (Nat×V)
abbrev Heap:=List (Nat×Blk)
structure St where
 regs:gw
 heap:Heap
 next:Nat
 defers:List V
 base:Nat
inductive Res where
 | val (v:V)
 | pan (d:Dat)
def look {α:Type}:List (Nat×α)->Nat->Option α
 | [],_=>none
 | (j,a)::r,i=>match Nat.beq j i with|true=>some a|false=>look r i
inductive Opd where
 | t (n:Nat)
 | c (d:Dat)
 deriving Inhabited
inductive MOp where
 | mov (x:Opd)
 | pick (c a b:Opd)
 | box (x:Opd)
 | alloc (zs:List Dat)
 | build (zs:List Dat) (parts:List (Nat×Nat×Opd))
 | load (agg:Bool) (n:Nat) (a:Opd)
 | store (n:Nat) (a x:Opd)
 | fld (off:Nat) (a:Opd)
 | cC (x:Opd)
 | idx (k:Nat) (s i:Opd)
 | idxs (s i:Opd)
 | len (str:Bool) (s:Opd)
 | bin (op:BinOp) (x y:Opd)
 | eqb (neg:Bool) (x y:Opd)
 | not (x:Opd)
 | call (f:FuncId) (args:List Opd)
 | ext (x:Opd) (i:Nat)
 | aW (k n:Nat) (zs:List Dat) (parts:List (Nat×Opd))
 | app (m:Bool) (k bytes:Nat) (s x:Opd)
 | EU (m:Bool) (k bytes:Nat) (zs:List Dat) (len cap:Opd)
 | sl (k:Nat) (x:Opd) (lo hi:Option Opd)
 | rH (x:Opd) (lo hi:Option Opd)
 | eqn (neg:Bool) (x:Opd)
 | eqi (neg:Bool) (x:Opd)
 | eqs (neg:Bool) (ks:List Nat) (x y:Opd)
 | sub (f:FuncId) (args:List Opd)
 | lp (x:Opd) (args:List Opd)
 | mK (f:FuncId) (first cap:List Opd)
 | defer (x:Opd) (args:List Opd)
 | panic (x:Opd)
 | vN (t:TypeId) (x:Opd)
 | mm (mx:Bool) (x y:Opd)
 | lq (kk:Option IntKind)
 | lkp (ok:Bool) (kk:Option IntKind) (z:Dat) (m x:Opd)
 | oD (kk:Option IntKind) (m x v:Opd)
 | Dk (m:Opd)
 | rng (x:Opd)
 | nxt (x:Opd)
 | zb (agg:Bool) (n off:Nat) (x:Opd)
 | fw (a:Opd)
 | qJ (a x:Opd)
 | yA (bytes:Nat) (z:Dat) (len cap:Opd)
 | LY (k bytes:Nat) (s x:Opd)
 | vO (ok:Bool) (kk:Option IntKind) (z:Dat) (m x:Opd)
 | yB (kk:Option IntKind) (m x v:Opd)
 | xH (n:Nat) (zs:List Dat) (parts:List (Nat×Nat×Opd))
 | zK (k n:Nat) (zs:List Dat) (parts:List (Nat×Opd))
 deriving Inhabited
structure MI where
 g:Option (Nat×Bool)
 dst:Option Nat
 op:MOp
 deriving Inhabited
structure DOp where
 mi:MI
 dep:List Nat
 loud:Bool
 deriving Inhabited
inductive ck where
 | skip
 | ops (l:List MI)
 | seq (a b:ck)
 | cond (c:Opd) (x y:ck)
 | block (id:Nat) (c:ck)
 | loop (c:ck)
 | exit (id:Nat)
 | ret
 | draw (fuel:Nat) (l:List DOp)
 deriving Inhabited
inductive aG where
 | normal
 | exit (id:Nat)
 | ret
 | panic (d:Dat)
inductive Tree where
 | done (e:aG) (st:St)
 | fail
 | test (b:Bool) (y n:Tree)
 | both (y n:Tree)
 | same (x y:Option V) (t:Tree)
 | elem (xs:List (List Dat)) (i:Nat) (k:List Dat->Tree)
 | byte (s:List UInt8) (i:Nat) (k:UInt8->Tree)
 | val (x:Option Dat) (k:Dat->Tree)
 | blk (x:Option Blk) (k:Blk->Tree)
 | Dm (x:Option V) (k:V->Tree)
 | heq (h:Heap) (k:Heap->Tree)
 | call (f:FuncId) (args:List Dat) (k:Dat->Tree)
 | sub (f:FuncId) (vs:List V) (h:Heap) (next:Nat) (k:Res->Heap->Nat->Tree)
 | code (c:ck) (st:St) (k:aG->St->Tree)
def Opd.ev (st:St):Opd->Option V
 | .t n=>match look st.regs n with
  | some .undef=>none
  | r=>r
 | .c d=>some (.d d)
def V.cells:V->List V
 | .agg cs=>cs
 | .d (.agg ds)=>ds.map V.d
 | v=>[v]
def V.fld (off:Nat):V->Option V
 | .ptr id o=>some (.ptr id (o+off))
 | .ro cs o=>some (.ro cs (o+off))
 | .nu _ _ _ _=>none
 | .d _=>none
 | .ref _ _ _ _=>none
 | .agg _=>none
 | .func _ _ _=>none
 | .tuple _=>none
 | .hnd _=>none
 | .row _ _=>none
 | .undef=>none
def V.XU:V->Bool
 | .ptr _ _=>true
 | .ro _ _=>true
 | .nu _ _ _ _=>false
 | .d _=>false
 | .ref _ _ _ _=>false
 | .agg _=>false
 | .func _ _ _=>false
 | .tuple _=>false
 | .hnd _=>false
 | .row _ _=>false
 | .undef=>false
def V.isAgg:V->Bool
 | .agg _=>true
 | .d (.agg _)=>true
 | _=>false
def vP:V->Bool
 | .agg _ | .tuple _ | .undef=>false
 | .d x=>match x with
  | .agg _ | .tuple _=>false
  | _=>true
 | _=>true
def V.dat (h:Heap):V->Option Dat
 | .d x=>some x
 | .agg cs=>(go cs).map Dat.agg
 | .ref id _ off len=>match look h id with
  | some (.arr k xs)=>some (.slice k ((xs.drop off).take len) false)
  | _=>none
 | .func f [] []=>some (.func f)
 | _=>none
where
 go:List V->Option (List Dat)
  | []=>some []
  | .d x::r=>match go r with|some l=>some (x::l)|none=>none
  | .ref id _ off len::r=>match look h id,go r with
   | some (.arr k xs),some l=>some (.slice k ((xs.drop off).take len) false::l)
   | _,_=>none
  | .func f [] []::r=>match go r with|some l=>some (.func f::l)|none=>none
  | _=>none
def mL (h:Heap):List V->Option (List Dat)
 | []=>some []
 | v::r=>match v.dat h,mL h r with
  | some x,some l=>some (x::l)
  | _,_=>none
def ep (st:St):List Opd->Option (List V)
 | []=>some []
 | x::r=>match x.ev st,ep st r with
  | some v,some l=>some (v::l)
  | _,_=>none
def V.jS:Dat->V
 | .agg ds=>.agg (ds.map V.d)
 | .tuple ds=>.tuple (ds.map VF)
 | x=>.d x
where
 VF:Dat->V
  | .agg ds=>.agg (ds.map V.d)
  | x=>.d x
def eQ (st:St) (b:Blk):St:={ st with heap:=(st.next,b)::st.heap,next:=st.next+1 }
def setAt {α:Type}:List α->Nat->List α->List α
 | l,_,[]=>l
 | l,i,v::vs=>setAt (l.set i v) (i+1) vs
def eW (st:St):List V->List (Nat×Nat×Opd)->Option (List V)
 | cs,[]=>some cs
 | cs,(off,n,x)::r=>match x.ev st with
  | some v=>match Nat.beq v.cells.length n&&Nat.ble (off+n) cs.length with
   | true=>eW st (setAt cs off v.cells) r
   | false=>none
  | none=>none
def si (agg:Bool) (cs:List V):Option V:=
 match agg,cs with
 | true,cs=>some (.agg cs)
 | false,[v]=>some v
 | false,_=>none
def inR (k:IntKind) (n:Int):Bool:=
 match k with
 | .i8=>decide (-128<=n)&&decide (n<128)
 | .i16=>decide (-32768<=n)&&decide (n<32768)
 | .i32=>decide (-2147483648<=n)&&decide (n<2147483648)
 | .i64=>decide (-9223372036854775808<=n)&&decide (n<9223372036854775808)
 | .u8=>decide (0<=n)&&decide (n<256)
 | .u16=>decide (0<=n)&&decide (n<65536)
 | .u32=>decide (0<=n)&&decide (n<4294967296)
 | .u64=>decide (0<=n)&&decide (n<18446744073709551616)
def fit (k:IntKind) (n:Int) (q:Int->Tree):Tree:=.test (inR k n) (q n) (q (k.wrap n))
def bits (op:BinOp) (k:IntKind) (x y:Int):Option Int:=
 let a:=BitVec.ofInt k.bits x
 let b:=BitVec.ofInt k.bits y
 match op with
 | .and=>some (k.wrap (a&&&b).toNat)
 | .or=>some (k.wrap (a|||b).toNat)
 | .xor=>some (k.wrap (a ^^^ b).toNat)
 | .andNot=>some (k.wrap (a&&&~~~b).toNat)
 | _=>none
def nw (op:BinOp) (k:IntKind) (a b:Int) (q:Dat->Tree):Tree:=
 match op with
 | .add=>fit k (a+b) fun n=>q (.int k n)
 | .sub=>fit k (a - b) fun n=>q (.int k n)
 | .mul=>fit k (a * b) fun n=>q (.int k n)
 | .quo=>.test (decide (b=0)) .fail (fit k (a.tdiv b) fun n=>q (.int k n))
 | .rem=>.test (decide (b=0)) .fail (q (.int k (a.tmod b)))
 | .eql=>q (.bool (decide (a=b)))
 | .neq=>q (.bool (!decide (a=b)))
 | .lss=>q (.bool (decide (a<b)))
 | .leq=>q (.bool (decide (a<=b)))
 | .gtr=>q (.bool (decide (b<a)))
 | .geq=>q (.bool (decide (b<=a)))
 | .shl | .shr=>.fail
 | op=>match bits op k a b with|some n=>q (.int k n)|none=>.fail
def oG (op:BinOp) (s t:List UInt8) (q:Dat->Tree):Tree:=
 match op with
 | .add=>.test (decide (s.length+t.length<4611686018427387904)) (q (.str (s++t))) .fail
 | .eql=>q (.bool (decide (s=t)))
 | .neq=>q (.bool (!decide (s=t)))
 | .lss=>q (.bool (Op.bytesLess s t))
 | .leq=>q (.bool (Op.bytesLess s t||decide (s=t)))
 | .gtr=>q (.bool (!(Op.bytesLess s t||decide (s=t))))
 | .geq=>q (.bool (!Op.bytesLess s t))
 | _=>.fail
def RH (h:Heap) (k:Nat):V->Option (Option Bool×List (List Dat))
 | .d .nil=>some (none,[])
 | .d (.slice k' ys _)=>match Nat.beq k k' with
  | true=>some (none,ys)
  | false=>none
 | .ref id ver off len=>match look h id with
  | some (.arr k' xs)=>match Nat.beq k k' with
   | true=>some (none,(xs.drop off).take len)
   | false=>none
  | some (.mt k' dU xs)=>match Nat.beq k k' with
   | true=>some (some (Nat.beq ver dU),(xs.drop off).take len)
   | false=>none
  | _=>none
 | _=>none
def KD (b:Option Bool) (t:Tree):Tree:=
 match b with
 | none=>t
 | some b=>.test b t .fail
def cM (m:Bool) (k:Nat) (xs:List (List Dat)):Blk:=
 match m with
 | true=>.mt k 0 xs
 | false=>.arr k xs
def iN (st:St) (k:Nat):List (List Dat)->List (Nat×Opd)->Option (List (List Dat))
 | xs,[]=>some xs
 | xs,(i,x)::r=>match x.ev st with
  | some v=>match mL st.heap v.cells with
   | some ds=>match Nat.beq ds.length k&&Nat.blt i xs.length&&v.cells.all vP with
    | true=>iN st k (xs.set i ds) r
    | false=>none
   | none=>none
  | none=>none
def fr (st:St) (d:Int):Option Opd->Option Int
 | none=>some d
 | some x=>match x.ev st with
  | some (.d (.int _ n))=>some n
  | _=>none
def VG (neg b:Bool):Bool:=
 match neg with
 | true=>!b
 | false=>b
def eqD:Nat->Dat->Dat->Option Bool
 | 1,.int k a,.int k' b=>match decide (k=k') with
  | true=>some (decide (a=b))
  | false=>none
 | 0,.bool a,.bool b=>some (a == b)
 | 2,.str a,.str b=>some (decide (a=b))
 | _,_,_=>none
def eqL:List Nat->List V->List V->Option Bool
 | [],[],[]=>some true
 | k::ks,.d x::r,.d y::r'=>match eqD k x y,eqL ks r r' with
  | some a,some b=>some (a&&b)
  | _,_=>none
 | _,_,_=>none
def jT {α:Type}:List α->(List α->Tree)->Tree
 | [],k=>k []
 | x::r,k=>jT r fun r'=>k (x::r')
theorem aj {α:Type}:∀(l:List α) (k:List α->Tree),jT l k=k l
 | [],_=>rfl
 | x::r,k=>by rw [jT,aj r]
def VH (st:St) (k:St->Tree):Tree:=
 match st with
 | ⟨a,b,c,d,e⟩=>k ⟨a,b,c,d,e⟩
theorem EV (st:St) (k:St->Tree):VH st k=k st:=rfl
def place {α:Type}:List α->Nat->List α->List α
 | cs,_,[]=>cs
 | [],_,_::_=>[]
 | _::cs,0,v::vs=>v::place cs 0 vs
 | c::cs,n+1,v::vs=>c::place cs n (v::vs)
theorem DV {α:Type}:∀(vs:List α) (n:Nat),setAt [] n vs=[]
 | [],n=>rfl
 | v::vs,n=>by rw [setAt];exact DV vs (n+1)
theorem lV {α:Type}:∀(vs:List α) (c:α) (cs:List α) (n:Nat),setAt (c::cs) (n+1) vs=c::setAt cs n vs
 | [],c,cs,n=>rfl
 | v::vs,c,cs,n=>by rw [setAt,setAt,ab7,lV vs]
theorem az {α:Type}:∀(cs:List α) (n:Nat) (vs:List α),place cs n vs=setAt cs n vs
 | cs,n,[]=>by rw [place,setAt]
 | [],n,v::vs=>by rw [place,DV]
 | c::cs,0,v::vs=>by rw [place,az cs 0 vs,setAt,acs,lV]
 | c::cs,n+1,v::vs=>by rw [place,az cs n (v::vs),lV]
def G7 (st:St):List V->List (Nat×Nat×Opd)->(List V->Tree)->Tree
 | cs,[],k=>k cs
 | cs,(off,n,x)::r,k=>match x.ev st with
  | some v=>match Nat.beq v.cells.length n&&Nat.ble (off+n) cs.length with
   | true=>jT (place cs off v.cells) fun cs'=>G7 st cs' r k
   | false=>.fail
  | none=>.fail
theorem aA {st:St}:∀(ps:List (Nat×Nat×Opd)) (cs:List V) (k:List V->Tree),G7 st cs ps k=match eW st cs ps with|some cs=>k cs|none=>.fail
 | [],cs,k=>rfl
 | (off,n,x)::r,cs,k=>by
  simp only [G7,eW]
  split
  ·split
   ·rw [aj,az,aA r]
   ·rfl
  ·rfl
def keyOf:Option IntKind->Dat->Option oC
 | some k,.int k' n=>match decide (k=k') with
  | true=>some (.i n)
  | false=>none
 | none,.str b=>some (.s b)
 | _,_=>none
def bh:List (oC×Dat)->oC->Option Dat
 | [],_=>none
 | (k,v)::r,x=>match decide (x=k) with
  | true=>some v
  | false=>bh r x
def dQ:List (oC×Dat)->oC->Dat->List (oC×Dat)
 | [],x,d=>[(x,d)]
 | (k,v)::r,x,d=>match decide (x=k) with
  | true=>(k,d)::r
  | false=>(k,v)::dQ r x d
def G8 (ok:Bool) (v:V) (b:Bool):V:=
 match ok with
 | true=>.tuple [v,.d (.bool b)]
 | false=>v
noncomputable def ca (s:List UInt8) (pos:Nat):Nat×Nat:=Classical.choose (⟨_,rfl⟩:∃x,x=Utf8.decode ⟨s.toArray⟩ pos)
theorem DW (s:List UInt8) (pos:Nat):ca s pos=Utf8.decode ⟨s.toArray⟩ pos:=Classical.choose_spec (⟨_,rfl⟩:∃x,x=Utf8.decode ⟨s.toArray⟩ pos)
def mmI (mx:Bool) (a b:Int):Int:=
 match mx with
 | true=>max a b
 | false=>min a b
noncomputable def step (op:MOp) (st:St) (q:V->St->Tree) (x:aG->St->Tree):Tree:=
 match op with
 | .mov x=>match x.ev st with|some v=>q v st|none=>.fail
 | .pick c a b=>match c.ev st with
  | some (.d (.bool t))=>.test t (match a.ev st with|some v=>q v st|none=>.fail) (match b.ev st with|some v=>q v st|none=>.fail)
  | _=>.fail
 | .box x=>match x.ev st with
  | some v=>jT v.cells fun cs=>q (.ptr st.next 0) (eQ st (.var cs))
  | none=>.fail
 | .alloc zs=>jT (zs.map V.d) fun cs=>q (.ptr st.next 0) (eQ st (.var cs))
 | .build zs ps=>jT (zs.map V.d) fun zs'=>G7 st zs' ps fun cs=>q (.agg cs) st
 | .load agg n a=>match a.ev st with
  | some (.ptr id off)=>match look st.heap id with
   | some (.var cs)=>match Nat.ble (off+n) cs.length with
    | true=>jT ((cs.drop off).take n) fun cs'=>match si agg cs' with
     | some v=>q v st
     | none=>.fail
    | false=>.fail
   | _=>.fail
  | some (.ro cs off)=>match Nat.ble (off+n) cs.length with
   | true=>jT (((cs.drop off).take n).map V.d) fun cs'=>match si agg cs' with
    | some v=>q v st
    | none=>.fail
   | false=>.fail
  | some (.nu id ver i cc)=>match look st.heap id with
   | some (.mt k dU xs)=>.test (Nat.beq ver dU) (.elem xs i fun cs=>match Nat.ble (cc+n) cs.length with
     | true=>jT (((cs.drop cc).take n).map V.d) fun cs'=>match si agg cs' with
      | some v=>q v st
      | none=>.fail
     | false=>.fail) .fail
   | _=>.fail
  | _=>.fail
 | .store n a x=>match a.ev st,x.ev st with
  | some (.ptr id off),some v=>match look st.heap id with
   | some (.var cs)=>match Nat.beq v.cells.length n&&Nat.ble (off+n) cs.length&&v.cells.all vP with
    | true=>jT (place cs off v.cells) fun cs'=>q .undef { st with heap:=(id,.var cs')::st.heap }
    | false=>.fail
   | _=>.fail
  | some (.nu id ver i cc),some v=>match look st.heap id with
   | some (.mt k dU xs)=>match mL st.heap v.cells with
    | some ds=>.test (Nat.beq ver dU) (.elem xs i fun cs=>match Nat.beq ds.length n&&Nat.ble (cc+n) cs.length&&v.cells.all vP with
     | true=>q .undef { st with heap:=(id,.mt k ver (xs.set i (setAt cs cc ds)))::st.heap }
     | false=>.fail) .fail
    | none=>.fail
   | _=>.fail
  | _,_=>.fail
 | .fld off a=>match a.ev st with
  | some (.nu id ver i cc)=>match look st.heap id with
   | some (.mt _ dU _)=>.test (Nat.beq ver dU) (q (.nu id ver i (cc+off)) st) .fail
   | _=>.fail
  | some v=>match v.fld off with
   | some u=>q u st
   | none=>.fail
  | none=>.fail
 | .cC x=>match x.ev st with
  | some v=>match v.XU with
   | true=>q v st
   | false=>.fail
  | none=>.fail
 | .idx k s i=>match s.ev st,i.ev st with
  | some (.d (.slice k' xs _)),some (.d (.int _ n))=>match Nat.beq k k' with
   | true=>.test (decide (0<=n)&&decide (n<xs.length)) (.elem xs n.toNat fun cs=>q (.ro cs 0) st) .fail
   | false=>.fail
  | some (.ref id ver off len),some (.d (.int _ n))=>match look st.heap id with
   | some (.arr k' xs)=>match Nat.beq k k' with
    | true=>.test (decide (0<=n)&&decide (n<len)) (.elem xs (off+n.toNat) fun cs=>q (.ro cs 0) st) .fail
    | false=>.fail
   | some (.mt k' dU xs)=>match Nat.beq k k' with
    | true=>.test (Nat.beq ver dU) (.test (decide (0<=n)&&decide (n<len)) (q (.nu id ver (off+n.toNat) 0) st) .fail) .fail
    | false=>.fail
   | _=>.fail
  | some (.row id len),some (.d (.int _ n))=>.test (decide (0<=n)&&decide (n<len)) (q (.ptr id (n.toNat * k)) st) .fail
  | _,_=>.fail
 | .idxs s i=>match s.ev st,i.ev st with
  | some (.d (.str s)),some (.d (.int _ n))=>.test (decide (0<=n)&&decide (n<s.length)) (.byte s n.toNat fun b=>q (.d (.int .u8 b.toNat)) st) .fail
  | _,_=>.fail
 | .len false s=>match s.ev st with
  | some (.d (.slice _ xs _))=>q (.d (.int .i64 xs.length)) st
  | some (.d .nil)=>q (.d (.int .i64 0)) st
  | some (.ref id ver _ len)=>match look st.heap id with
   | some (.arr _ _)=>q (.d (.int .i64 len)) st
   | some (.mt _ dU _)=>.test (Nat.beq ver dU) (q (.d (.int .i64 len)) st) .fail
   | _=>.fail
  | some (.row _ len)=>q (.d (.int .i64 len)) st
  | _=>.fail
 | .len true s=>match s.ev st with
  | some (.d (.str s))=>q (.d (.int .i64 s.length)) st
  | _=>.fail
 | .bin op x y=>match x.ev st,y.ev st with
  | some (.d (.int k a)),some (.d (.int k' b))=>match decide (k=k') with
   | true=>nw op k a b fun d=>q (.d d) st
   | false=>.fail
  | some (.d (.str a)),some (.d (.str b))=>oG op a b fun d=>q (.d d) st
  | _,_=>.fail
 | .eqb neg x y=>match x.ev st,y.ev st with
  | some (.d (.bool a)),some (.d (.bool b))=>q (.d (.bool (match neg with|true=>a != b|false=>a == b))) st
  | _,_=>.fail
 | .not x=>match x.ev st with
  | some (.d (.bool b))=>q (.d (.bool (!b))) st
  | _=>.fail
 | .call f xs=>match ep st xs with
  | some vs=>match mL st.heap vs with
   | some ds=>.call f ds fun r=>q (V.jS r) st
   | none=>.fail
  | none=>.fail
 | .ext x i=>match x.ev st with
  | some (.tuple vs)=>match vs[i]? with|some v=>q v st|none=>.fail
  | _=>.fail
 | .aW k n zs ps=>match iN st k (List.replicate n zs) ps with
  | some xs=>q (.d (.slice k xs true)) st
  | none=>.fail
 | .app m k bytes s x=>match s.ev st,x.ev st with
  | some b,some y=>match RH st.heap k y with
   | some (vb,ys)=>KD vb (match b with
    | .d .nil=>.test (decide (ys.length * bytes<=70368744177664))
      (q (.ref st.next 0 0 ys.length) (eQ st (cM m k ys))) .fail
    | .d (.slice k' xs true)=>match Nat.beq k k' with
     | true=>.test xs.isEmpty
       (.test (decide (ys.length * bytes<=70368744177664)) (.test ys.isEmpty (q b st) (q (.ref st.next 0 0 ys.length) (eQ st (cM m k ys)))) .fail)
       (.test (decide ((xs.length+ys.length) * bytes<=70368744177664))
        (.test ys.isEmpty (q b st) (q (.ref st.next 0 0 (xs.length+ys.length)) (eQ st (cM m k (xs++ys))))) .fail)
     | false=>.fail
    | .ref id ver 0 len=>match look st.heap id with
     | some (.arr k' xs)=>match Nat.beq k k' with
      | true=>.test (decide (len=xs.length)&&decide ((len+ys.length) * bytes<=70368744177664))
        (q (.ref id 0 0 (len+ys.length)) { st with heap:=(id,.arr k (xs++ys))::st.heap }) .fail
      | false=>.fail
     | some (.mt k' dU xs)=>match Nat.beq k k' with
      | true=>.test (Nat.beq ver dU) (.test (decide ((len+ys.length) * bytes<=70368744177664))
        (q (.ref id (ver+1) 0 (len+ys.length)) { st with heap:=(id,.mt k (ver+1) (xs.take len++ys))::st.heap }) .fail) .fail
      | false=>.fail
     | _=>.fail
    | _=>.fail)
   | none=>.fail
  | _,_=>.fail
 | .EU m k bytes zs l cp=>match l.ev st,cp.ev st with
  | some (.d (.int .i64 n)),some (.d (.int .i64 c))=>.test (decide (0<=n)&&decide (n<=c)&&decide (c * bytes<=70368744177664))
    (q (.ref st.next 0 0 n.toNat) (eQ st (cM m k (List.replicate n.toNat zs)))) .fail
  | _,_=>.fail
 | .sl k x lo hi=>match x.ev st with
  | some (.d (.slice k' xs z))=>match Nat.beq k k',fr st 0 lo,fr st xs.length hi with
   | true,some l,some h=>.test (decide (0<=l)&&decide (l<=h)&&decide (h<=xs.length))
     (q (.d (.slice k ((xs.take h.toNat).drop l.toNat) false)) st) .fail
   | _,_,_=>.fail
  | some (.ref id ver off len)=>match look st.heap id,fr st 0 lo,fr st len hi with
   | some (.arr k' xs),some l,some h=>match Nat.beq k k' with
    | true=>.test (decide (0<=l)&&decide (l<=h)&&decide (h<=len)) (q (.ref id ver (off+l.toNat) (h - l).toNat) st) .fail
    | false=>.fail
   | some (.mt k' dU xs),some l,some h=>match Nat.beq k k' with
    | true=>.test (Nat.beq ver dU) (.test (decide (0<=l)&&decide (l<=h)&&decide (h<=len)) (q (.ref id ver (off+l.toNat) (h - l).toNat) st) .fail) .fail
    | false=>.fail
   | _,_,_=>.fail
  | some (.d .nil)=>match fr st 0 lo,fr st 0 hi with
   | some l,some h=>.test (decide (l=0)&&decide (h=0)) (q (.d .nil) st) .fail
   | _,_=>.fail
  | _=>.fail
 | .rH x lo hi=>match x.ev st with
  | some (.d (.str s))=>match fr st 0 lo,fr st s.length hi with
   | some l,some h=>.test (decide (0<=l)&&decide (l<=h)&&decide (h<=s.length)) (q (.d (.str ((s.take h.toNat).drop l.toNat))) st) .fail
   | _,_=>.fail
  | _=>.fail
 | .eqn neg x=>match x.ev st with
  | some (.d .nil)=>q (.d (.bool (!neg))) st
  | some (.d (.slice _ xs _))=>.test xs.isEmpty (.both (q (.d (.bool (!neg))) st) (q (.d (.bool neg)) st)) (q (.d (.bool neg)) st)
  | _=>.fail
 | .eqi neg x=>match x.ev st with
  | some (.d .nilIface)=>q (.d (.bool (!neg))) st
  | some (.d (.iface _ _))=>q (.d (.bool neg)) st
  | _=>.fail
 | .eqs neg ks x y=>match x.ev st,y.ev st with
  | some v,some u=>match v.isAgg&&u.isAgg,eqL ks v.cells u.cells with
   | true,some b=>q (.d (.bool (VG neg b))) st
   | _,_=>.fail
  | _,_=>.fail
 | .sub f xs=>match ep st xs with
  | some vs=>.sub f vs st.heap st.next fun r h n=>match r with
   | .val v=>q v { st with heap:=h,next:=n }
   | .pan d=>x (.panic d) { st with heap:=h,next:=n }
  | none=>.fail
 | .lp g xs=>match g.ev st,ep st xs with
  | some (.d (.func f)),some vs=>.sub f vs st.heap st.next fun r h n=>match r with
   | .val v=>q v { st with heap:=h,next:=n }
   | .pan d=>x (.panic d) { st with heap:=h,next:=n }
  | some (.func f fs cs),some vs=>.sub f (fs++(vs++cs)) st.heap st.next fun r h n=>match r with
   | .val v=>q v { st with heap:=h,next:=n }
   | .pan d=>x (.panic d) { st with heap:=h,next:=n }
  | _,_=>.fail
 | .mK f xs ys=>match ep st xs,ep st ys with
  | some fs,some cs=>q (.func f fs cs) st
  | _,_=>.fail
 | .defer g xs=>match g.ev st,ep st xs with
  | some (.d (.func f)),some vs=>q .undef { st with defers:=.func f vs []::st.defers }
  | some (.func f fs cs),some vs=>q .undef { st with defers:=.func f (fs++vs) cs::st.defers }
  | _,_=>.fail
 | .panic y=>match y.ev st with
  | some (.d (.iface t d))=>x (.panic (.iface t d)) st
  | _=>.fail
 | .vN t y=>match y.ev st with
  | some v=>match v.dat st.heap with
   | some d=>q (.d (.iface t d)) st
   | none=>.fail
  | none=>.fail
 | .mm mx x y=>match x.ev st,y.ev st with
  | some (.d (.int k a)),some (.d (.int k' b))=>match decide (k=k') with
   | true=>q (.d (.int k (mmI mx a b))) st
   | false=>.fail
  | _,_=>.fail
 | .lq kk=>q (.hnd st.next) (eQ st (.map kk []))
 | .lkp ok kk z m y=>match m.ev st,y.ev st with
  | some (.hnd id),some (.d x)=>match look st.heap id with
   | some (.map kk' es)=>match decide (kk=kk'),keyOf kk x with
    | true,some key=>.test (bh es key).isSome (.val (bh es key) fun v=>q (G8 ok (V.jS v) true) st) (q (G8 ok (V.jS z) false) st)
    | _,_=>.fail
   | _=>.fail
  | _,_=>.fail
 | .oD kk m y u=>match m.ev st,y.ev st,u.ev st with
  | some (.hnd id),some (.d x),some v=>match look st.heap id,v.dat st.heap with
   | some (.map kk' es),some d=>match decide (kk=kk'),keyOf kk x with
    | true,some key=>q .undef { st with heap:=(id,.map kk (dQ es key d))::st.heap }
    | _,_=>.fail
   | _,_=>.fail
  | _,_,_=>.fail
 | .Dk m=>match m.ev st with
  | some (.hnd id)=>match look st.heap id with
   | some (.map _ es)=>q (.d (.int .i64 es.length)) st
   | _=>.fail
  | _=>.fail
 | .rng x=>match x.ev st with
  | some (.d (.str s))=>q (.hnd st.next) (eQ st (.iter s 0))
  | _=>.fail
 | .nxt x=>match x.ev st with
  | some (.hnd id)=>match look st.heap id with
   | some (.iter s pos)=>.test (decide (pos<s.length))
     (q (.tuple [.d (.bool true),.d (.int .i64 pos),.d (.int .i32 (ca s pos).1)]) { st with heap:=(id,.iter s (pos+(ca s pos).2))::st.heap })
     (q (.tuple [.d (.bool false)]) st)
   | _=>.fail
  | _=>.fail
 | .zb agg n off y=>match y.ev st with
  | some v=>match v.isAgg&&Nat.ble (off+n) v.cells.length with
   | true=>jT ((v.cells.drop off).take n) fun cs=>match si agg cs with
    | some u=>q u st
    | none=>.fail
   | false=>.fail
  | none=>.fail
 | .fw a=>match a.ev st with
  | some (.ptr id off)=>match look st.heap id with
   | some (.var cs)=>.Dm (cs[off]?) fun v=>q v st
   | _=>.fail
  | some (.ro cs off)=>match Nat.ble (off+1) cs.length with
   | true=>jT (((cs.drop off).take 1).map V.d) fun cs'=>match si false cs' with
    | some v=>q v st
    | none=>.fail
   | false=>.fail
  | _=>.fail
 | .qJ a x=>match a.ev st,x.ev st with
  | some (.ptr id off),some v=>match look st.heap id,vP v with
   | some (.var cs),true=>.test (decide (off<cs.length)) (q .undef { st with heap:=(id,.var (cs.set off v))::st.heap }) .fail
   | _,_=>.fail
  | _,_=>.fail
 | .yA bytes z l cp=>match l.ev st,cp.ev st with
  | some (.d (.int .i64 n)),some (.d (.int .i64 c))=>.test (decide (n=c)&&decide (0<=n)&&decide (c * bytes<=70368744177664))
    (.test (decide (0<n)) (q (.row st.next n.toNat) (eQ st (.var (List.replicate n.toNat (.d z))))) (q (.d (.slice 1 [] true)) st)) .fail
  | _,_=>.fail
 | .LY k bytes s x=>match s.ev st,x.ev st with
  | some b,some y=>match RH st.heap k y with
   | some (none,ys)=>match b with
    | .d .nil=>.test (decide (ys.length * bytes<=70368744177664))
      (q (.ref st.next 0 0 ys.length) (eQ st (.arr k ys))) .fail
    | .d (.slice k' xs true)=>match Nat.beq k k' with
     | true=>.test xs.isEmpty
       (.test (decide (ys.length * bytes<=70368744177664)) (.test ys.isEmpty (q b st) (q (.ref st.next 0 0 ys.length) (eQ st (.arr k ys)))) .fail)
       .fail
     | false=>.fail
    | .ref id ver 0 len=>.blk (look st.heap id) fun b=>match b with
     | .arr k' xs=>match Nat.beq k k' with
      | true=>.test (decide (len=xs.length)&&decide ((len+ys.length) * bytes<=70368744177664))
        (.heq ((id,.arr k (xs++ys))::st.heap) fun h=>q (.ref id 0 0 (len+ys.length)) { st with heap:=h }) .fail
      | false=>.fail
     | _=>.fail
    | _=>.fail
   | _=>.fail
  | _,_=>.fail
 | .vO ok kk z m y=>match m.ev st,y.ev st with
  | some (.hnd id),some (.d x)=>.blk (look st.heap id) fun b=>match b with
   | .map kk' es=>match decide (kk=kk'),keyOf kk x with
    | true,some key=>.test (bh es key).isSome (.val (bh es key) fun v=>q (G8 ok (V.jS v) true) st) (q (G8 ok (V.jS z) false) st)
    | _,_=>.fail
   | _=>.fail
  | _,_=>.fail
 | .yB kk m y u=>match m.ev st,y.ev st,u.ev st with
  | some (.hnd id),some (.d x),some v=>match v.dat st.heap with
   | some d=>.blk (look st.heap id) fun b=>match b with
    | .map kk' es=>match decide (kk=kk'),keyOf kk x with
     | true,some key=>.heq ((id,.map kk (dQ es key d))::st.heap) fun h=>q .undef { st with heap:=h }
     | _,_=>.fail
    | _=>.fail
   | _=>.fail
  | _,_,_=>.fail
 | .zK k n zs ps=>match iN st k (List.replicate n zs) ps with
  | some xs=>q (.ref st.next 0 0 n) (eQ st (cM true k xs))
  | none=>.fail
 | .xH n zs ps=>jT (zs.map V.d) fun cs=>G7 st cs ps fun cs=>q (.row st.next n) (eQ st (.var cs))
def put (dst:Option Nat) (v:V) (st:St):St:=
 match dst with
 | some d=>{ st with regs:=(d,v)::st.regs }
 | none=>st
def gQ (dst:Option Nat) (mode:Option (Nat×Bool×Bool)):Option (Nat×Bool×Bool):=
 match dst,mode with
 | some d,some (t,want,hold)=>match Nat.beq d t with
  | true=>none
  | false=>some (t,want,hold)
 | _,m=>m
def decided (mode:Option (Nat×Bool×Bool)) (t:Nat) (want:Bool):Option Bool:=
 match mode with
 | some (t',want',hold)=>match Nat.beq t t'&&(want == want') with
  | true=>some hold
  | false=>none
 | none=>none
abbrev Mode:=Option (Nat×Bool×Bool)
abbrev Go0:=St->(aG->St->Tree)->Tree
abbrev Go1:=Mode->Go0
def VI:Go1:=fun _ st q=>q .normal st
noncomputable def RJ (i:MI) (r:List MI) (ih:Go1):Go1:=fun mode st q=>VH st fun st=>match i.g with
  | none=>step i.op st (fun v st'=>ih none (put i.dst v st') q) q
  | some (t,want)=>
   match decided mode t want with
   | some true=>step i.op st (fun v st'=>ih (gQ i.dst mode) (put i.dst v st') q) q
   | some false=>ih (gQ i.dst mode) (put i.dst (.tuple []) st) q
   | none=>match look st.regs t with
    | some (.d (.bool b))=>.test (b == want)
      (step i.op (put (some t) (.d (.bool want)) st) (fun v st'=>ih (gQ i.dst (some (t,want,true))) (put i.dst v st') q) q)
      (ih (gQ i.dst (some (t,want,false))) (put i.dst (.tuple []) (put (some t) (.d (.bool (!want))) st)) q)
    | some (.tuple [])=>ih (gQ i.dst mode) (put i.dst (.tuple []) st) q
    | _=>.fail
noncomputable def dt (l:List MI):Go1:=List.rec (motive:=fun _=>Go1) VI RJ l
theorem sj (mode:Mode) (st:St) (q:aG->St->Tree):dt [] mode st q=q .normal st:=rfl
theorem qK (i:MI) (r:List MI) (mode:Mode) (st:St) (q:aG->St->Tree):dt (i::r) mode st q=VH st fun st=>match i.g with
  | none=>step i.op st (fun v st'=>dt r none (put i.dst v st') q) q
  | some (t,want)=>
   match decided mode t want with
   | some true=>step i.op st (fun v st'=>dt r (gQ i.dst mode) (put i.dst v st') q) q
   | some false=>dt r (gQ i.dst mode) (put i.dst (.tuple []) st) q
   | none=>match look st.regs t with
    | some (.d (.bool b))=>.test (b == want)
      (step i.op (put (some t) (.d (.bool want)) st) (fun v st'=>dt r (gQ i.dst (some (t,want,true))) (put i.dst v st') q) q)
      (dt r (gQ i.dst (some (t,want,false))) (put i.dst (.tuple []) (put (some t) (.d (.bool (!want))) st)) q)
    | some (.tuple [])=>dt r (gQ i.dst mode) (put i.dst (.tuple []) st) q
    | _=>.fail:=rfl
def VJ:Go0:=fun st q=>q .normal st
noncomputable def XV (l:List MI):Go0:=fun st q=>dt l none st q
def XW (_ _:ck) (a b:Go0):Go0:=fun st q=>a st fun e st'=>match e with
  | .normal=>b st' q
  | e=>q e st'
def VK (c:Opd) (_ _:ck) (x y:Go0):Go0:=fun st q=>match c.ev st with
  | some (.d (.bool b))=>.test b (x st q) (y st q)
  | _=>.fail
def RL (id:Nat) (_:ck) (c:Go0):Go0:=fun st q=>c st fun e st'=>match e with
  | .exit j=>match Nat.beq j id with
   | true=>q .normal st'
   | false=>q (.exit j) st'
  | e=>q e st'
def VL (c:ck) (_:Go0):Go0:=fun st q=>.code (.loop c) st q
def VM (id:Nat):Go0:=fun st q=>q (.exit id) st
def XX:Go0:=fun st q=>q .ret st
def VN (m:Nat) (l:List DOp):Go0:=fun st q=>.code (.draw m l) st q
noncomputable def exec (m:ck):Go0:=ck.rec (motive:=fun _=>Go0) VJ XV XW VK RL VL VM XX VN m
theorem pY (st:St) (q:aG->St->Tree):exec .skip st q=q .normal st:=rfl
theorem sk (l:List MI) (st:St) (q:aG->St->Tree):exec (.ops l) st q=dt l none st q:=rfl
theorem sn (a b:ck) (st:St) (q:aG->St->Tree):exec (.seq a b) st q=exec a st fun e st'=>match e with
  | .normal=>exec b st' q
  | e=>q e st':=rfl
theorem pZ (c:Opd) (x y:ck) (st:St) (q:aG->St->Tree):exec (.cond c x y) st q=match c.ev st with
  | some (.d (.bool b))=>.test b (exec x st q) (exec y st q)
  | _=>.fail:=rfl
theorem ny (id:Nat) (c:ck) (st:St) (q:aG->St->Tree):exec (.block id c) st q=exec c st fun e st'=>match e with
  | .exit j=>match Nat.beq j id with
   | true=>q .normal st'
   | false=>q (.exit j) st'
  | e=>q e st':=rfl
theorem qa (c:ck) (st:St) (q:aG->St->Tree):exec (.loop c) st q = .code (.loop c) st q:=rfl
theorem qb (id:Nat) (st:St) (q:aG->St->Tree):exec (.exit id) st q=q (.exit id) st:=rfl
theorem sq (st:St) (q:aG->St->Tree):exec .ret st q=q .ret st:=rfl
theorem qc (m:Nat) (l:List DOp) (st:St) (q:aG->St->Tree):exec (.draw m l) st q = .code (.draw m l) st q:=rfl
def sr:List Nat->Nat->Bool
 | [],_=>false
 | x::r,i=>match Nat.beq x i with
  | true=>true
  | false=>sr r i
def qM:List Nat->List Nat->List Nat->Bool
 | [],_,_=>true
 | j::r,E,D=>(sr E j||sr D j)&&qM r E D
def waited (all:List DOp):List Nat->Nat->Bool
 | [],_=>false
 | n::D,i=>(match all[n]? with|some o=>sr o.dep i|none=>false)||waited all D i
noncomputable def pC (all:List DOp) (D:List Nat):List DOp->Nat->List Nat->St->(List Nat->St->Tree)->Tree
 | [],_,E,st,q=>q E st
 | o::r,i,E,st,q=>match o.loud with
  | true=>pC all D r (i+1) E st q
  | false=>match sr E i with
   | true=>match waited all D i with
    | true=>pC all D r (i+1) E st q
    | false=>dt [o.mi] none st fun e st'=>match e with
     | .normal=>.same (match o.mi.dst with|some d=>look st'.regs d|none=>none) (match o.mi.dst with|some d=>look st.regs d|none=>none) (pC all D r (i+1) E st q)
     | _=>.fail
   | false=>match qM o.dep E D with
    | true=>dt [o.mi] none st fun e st'=>match e with
     | .normal=>pC all D r (i+1) (i::E) st' q
     | _=>.fail
    | false=>pC all D r (i+1) E st q
def KE:List Tree->Tree
 | []=>.fail
 | [t]=>t
 | t::r=>.both t (KE r)
def yC (E D:List Nat):List DOp->Nat->(Nat->DOp->Tree)->List Tree
 | [],_,_=>[]
 | o::r,i,f=>match o.loud&&!sr D i&&qM o.dep E D with
  | true=>f i o::yC E D r (i+1) f
  | false=>yC E D r (i+1) f
def zL (D:List Nat):List DOp->Nat->Bool
 | [],_=>true
 | o::r,i=>(!o.loud||sr D i)&&zL D r (i+1)
def KF (t:Nat) (o:DOp):Bool:=
 match o.mi.dst with
 | some d=>Nat.beq d t
 | none=>false
def keepR (all:List DOp):gw->gw
 | []=>[]
 | (t,v)::r=>match all.any (KF t) with
  | true=>keepR all r
  | false=>(t,v)::keepR all r
noncomputable def zM (all:List DOp) (r0:gw):Nat->List Nat->List Nat->St->(aG->St->Tree)->Tree
 | 0,E,D,st,q=>pC all D all 0 E st fun E' st'=>match zL D all 0 with
  | true=>q .normal st'
  | false=>.fail
 | m+1,E,D,st,q=>pC all D all 0 E st fun E' st'=>KE (yC E' D all 0 fun i o=>dt [o.mi] none st' fun e EW=>match e with
  | .normal=>zM all r0 m E' (i::D) EW q
  | e=>q e { EW with regs:=r0 })
end Uw
namespace Uw
open Go
structure Pol where
 mt:Bool
 sub:List Nat
def zN:Value->Option Dat
 | .bool b=>some (.bool b)
 | .int k n=>some (.int k n)
 | .string s=>some (.str s.data.toList)
 | .slice none 0 0=>some .nil
 | .nilFunc=>some .nilFunc
 | .nilIface=>some .nilIface
 | .pointer none=>some .nilPtr
 | .map none=>some .bg
 | .func (.func f) x y=>match x.toList,y.toList with
  | [],[]=>some (.func f)
  | _,_=>none
 | _=>none
def jU:List Value->Option (List Dat)
 | []=>some []
 | v::r=>match zN v,jU r with
  | some x,some l=>some (x::l)
  | _,_=>none
def ao:Operand->Option Opd
 | .tmp t=>some (.t t)
 | .const v=>(zN v).map Opd.c
 | .func f=>some (.c (.func f))
 | .global _=>none
def dX:List Operand->Option (List Opd)
 | []=>some []
 | x::r=>match ao x,dX r with
  | some v,some l=>some (v::l)
  | _,_=>none
def lk:Option Operand->Option (Option Opd)
 | none=>some none
 | some z=>(ao z).map some
def nA:List (Nat×Operand)->Option (List (Nat×Opd))
 | []=>some []
 | (i,x)::r=>match ao x,nA r with
  | some y,some l=>some ((i,y)::l)
  | _,_=>none
def kK (P:Program) (t:TypeId):Option Bool:=
 match P.underlying t with
 | some (.struct _)|some (.array _ _)=>some true
 | some _=>some false
 | none=>none
def sizeT (P:Program) (t:TypeId):Option Nat:=(P.info? t).map (·.size)
def mf (P:Program) (t:TypeId):Option (List Dat):=
 match P.info? t with
 | some i=>match i.zero with
  | some v=>jU v.cells.toList
  | none=>none
 | none=>none
def DX (P:Program) (t:TypeId):Option (TypeId×Nat×Nat×List Dat):=
 match P.underlying t with
 | some (.slice e)=>match P.info? e with
  | some i=>match i.zero with
   | some z=>match jU z.cells.toList with
    | some zs=>match Nat.beq z.cells.size i.size&&Nat.beq zs.length i.size&&Nat.blt 0 i.size&&Nat.blt 0 i.bytes with
     | true=>some (e,i.size,i.bytes,zs)
     | false=>none
    | none=>none
   | none=>none
  | none=>none
 | _=>none
def G9 (P:Program) (t:TypeId):Bool:=
 match P.underlying t with
 | some (.interface _)=>false
 | some _=>true
 | none=>false
def zeroV (P:Program) (t:TypeId):Option Dat:=
 match P.info? t with
 | some i=>match i.zero with
  | some (.agg vs)=>(jU vs.toList).map Dat.agg
  | some v=>zN v
  | none=>none
 | none=>none
def Dn (P:Program) (t:TypeId):Option (TypeId×TypeId×Option IntKind×Dat):=
 match P.underlying t with
 | some (.map k e)=>match P.underlying k,zeroV P e with
  | some (.int ik),some z=>some (k,e,some ik,z)
  | some .string,some z=>some (k,e,none,z)
  | _,_=>none
 | _=>none
def VO (P:Program) (t:TypeId):Bool:=
 match P.underlying t with
 | some (.slice _)|some (.map _ _)=>true
 | _=>false
def Pol.fam (pol:Pol):Bool:=pol.sub.contains 1000000
def zO (P:Program) (t:TypeId):Option Nat:=
 match P.underlying t with
 | some .bool=>some 0
 | some (.int _)=>some 1
 | some .string=>some 2
 | _=>none
def He (P:Program):Nat->List Field->Option (List Nat)
 | _,[]=>some []
 | i,f::r=>match zO P f.type,Nat.beq f.offset i&&(f.name != "_"),He P (i+1) r with
  | some k,true,some l=>some (k::l)
  | _,_,_=>none
def N2 (P:Program) (t:TypeId):Option (List Nat):=
 match P.underlying t with
 | some (.struct fs)=>match !P.stoodInHeld t&&!P.eqGuardType P.depth t with
  | true=>He P 0 fs.toList
  | false=>none
 | _=>none
def Jl:Operand->Bool
 | .const (.slice none _ _)=>true
 | _=>false
def Jm:Operand->Bool
 | .const .nilIface=>true
 | _=>false
def Jn (P:Program) (t:TypeId):Option (Nat->Option (Nat×Nat)):=
 match P.info? t,P.underlying t with
 | some _,some (.array _ e)=>match P.info? e with
  | some ie=>some fun i=>some (i * ie.size,ie.size)
  | none=>none
 | some _,some (.struct fs)=>match fs.toList.mapM (fun f=>(P.info? f.type).map fun i=>(f.offset,i.size)) with
  | some places=>some fun i=>places.toArray[i]?
  | none=>none
 | _,_=>none
def jI (place:Nat->Option (Nat×Nat)):List (Nat×Operand)->Option (List (Nat×Nat×Opd))
 | []=>some []
 | (i,x)::r=>match place i,ao x,jI place r with
  | some (off,n),some o,some l=>some ((off,n,o)::l)
  | _,_,_=>none
def EX (P:Program) (pol:Pol) (o:Oper):Option MOp:=
 match o.op with
 | .move x | .assign x=>(ao x).map MOp.mov
 | .pick c a b=>match ao c,ao a,ao b with
  | some c,some a,some b=>some (.pick c a b)
  | _,_,_=>none
 | .box _ x=>(ao x).map MOp.box
 | .alloc t=>(mf P t).map MOp.alloc
 | .build t ps=>match Jn P t,mf P t with
  | some place,some zs=>(jI place ps.toList).map (MOp.build zs)
  | _,_=>none
 | .load t a=>match kK P t,sizeT P t,ao a with
  | some g,some n,some a=>match pol.fam&&VO P t&&!g&&Nat.beq n 1 with
   | true=>some (.fw a)
   | false=>some (.load g n a)
  | _,_,_=>none
 | .store t a x=>match sizeT P t,ao a,ao x with
  | some n,some a,some x=>match pol.fam&&VO P t&&Nat.beq n 1 with
   | true=>some (.qJ a x)
   | false=>some (.store n a x)
  | _,_,_=>none
 | .nilCheck x=>(ao x).map MOp.cC
 | .fieldAddr s x f=>match P.underlying s with
  | some (.struct fs)=>match fs[f]? with
   | some fd=>match sizeT P fd.type,ao x with
    | some (_+1),some x=>some (.fld fd.offset x)
    | _,_=>none
   | none=>none
  | _=>none
 | .indexAddr t x i=>match P.underlying t with
  | some (.slice e)=>match sizeT P e,ao x,ao i with
   | some k,some x,some i=>some (.idx k x i)
   | _,_,_=>none
  | some (.array m e)=>match sizeT P e,ao x,ao i with
   | some k,some x,some i=>none
   | _,_,_=>none
  | _=>none
 | .index t x i=>match P.underlying t with
  | some .string=>match ao x,ao i with
   | some x,some i=>some (.idxs x i)
   | _,_=>none
  | some (.array m e)=>match kK P e,sizeT P e,ao x,ao i with
   | some g,some k,some x,some i=>none
   | _,_,_,_=>none
  | _=>none
 | .makeMap t none=>match Dn P t with
  | some (_,_,kk,_)=>some (.lq kk)
  | none=>none
 | .lookup t x i ok=>match Dn P t,ao x,ao i with
  | some (_,_,kk,z),some x,some i=>match pol.fam with
   | true=>some (.vO ok kk z x i)
   | false=>some (.lkp ok kk z x i)
  | _,_,_=>none
 | .mapUpdate t m x v=>match Dn P t,ao m,ao x,ao v with
  | some (_,_,kk,_),some m,some x,some v=>match pol.fam with
   | true=>some (.yB kk m x v)
   | false=>some (.oD kk m x v)
  | _,_,_,_=>none
 | .insert t m x v=>match Dn P t,ao m,ao x,ao v with
  | some (_,_,kk,_),some m,some x,some v=>some (.oD kk m x v)
  | _,_,_,_=>none
 | .range t x=>match P.underlying t with
  | some .string=>(ao x).map MOp.rng
  | _=>none
 | .next x true=>(ao x).map MOp.nxt
 | .binOp op t x0 y0 _=>match P.underlying t,ao x0,ao y0 with
  | some .bool,some x,some y=>match op with
   | .eql=>some (.eqb false x y)
   | .neq=>some (.eqb true x y)
   | _=>none
  | some (.int _),some x,some y=>some (.bin op x y)
  | some .string,some x,some y=>some (.bin op x y)
  | some (.slice _),some x,some _=>match Jl y0,op with
   | true,.eql=>some (.eqn false x)
   | true,.neq=>some (.eqn true x)
   | _,_=>none
  | some (.interface _),some x,some _=>match Jm y0,op with
   | true,.eql=>some (.eqi false x)
   | true,.neq=>some (.eqi true x)
   | _,_=>none
  | some (.struct _),some x,some y=>match N2 P t,op with
   | some n,.eql=>some (.eqs false n x y)
   | some n,.neq=>some (.eqs true n x y)
   | _,_=>none
  | _,_,_=>none
 | .unOp .not _ x=>(ao x).map MOp.not
 | .convert s d x=>match P.underlying s,P.underlying d with
  | some (.int _),some (.int k)=>none
  | some (.slice e),some .string=>match P.underlying e with
   | some (.int .u8)=>none
   | _=>none
  | _,_=>none
 | .call c=>match c.callee with
  | .builtin .len=>match c.args.toList,c.argTypes.toList with
   | [x],[t]=>match P.underlying t with
    | some (.slice _)=>(ao x).map (MOp.len false)
    | some .string=>(ao x).map (MOp.len true)
    | some (.map _ _)=>(ao x).map MOp.Dk
    | _=>none
   | _,_=>none
  | .builtin .min=>match c.args.toList with
   | [x,y]=>match ao x,ao y with
    | some x,some y=>some (.mm false x y)
    | _,_=>none
   | _=>none
  | .builtin .max=>match c.args.toList with
   | [x,y]=>match ao x,ao y with
    | some x,some y=>some (.mm true x y)
    | _,_=>none
   | _=>none
  | .builtin .append=>match c.args.toList,c.argTypes.toList with
   | [x,y],[t,t']=>match Nat.beq t t',DX P t,ao x,ao y with
    | true,some (_,k,bytes,_),some x,some y=>match pol.fam with
     | true=>some (.LY k bytes x y)
     | false=>some (.app pol.mt k bytes x y)
    | _,_,_,_=>none
   | _,_=>none
  | .value (.func f)=>match P.funcs[f]? with
   | some fn=>match fn.body.isSome&&!(fn.name == "runtime.NumGoroutine") with
    | true=>match pol.sub.contains f with
     | true=>(dX c.args.toList).map (MOp.sub f)
     | false=>(dX c.args.toList).map (MOp.call f)
    | false=>none
   | none=>none
  | .value (.tmp t)=>(dX c.args.toList).map (MOp.lp (.t t))
  | .builtin .copy=>match c.args.toList,c.argTypes.toList with
   | [x,y],[t,t']=>match DX P t,P.underlying t',ao x,ao y with
    | some (_,k,_,_),some (.slice _),some x,some y=>none
    | _,_,_,_=>none
   | _,_=>none
  | _=>none
 | .makeFunc (.func f) fs cs=>match dX fs.toList,dX cs.toList with
  | some fs,some cs=>some (.mK f fs cs)
  | _,_=>none
 | .defer c=>match c.callee with
  | .value (.tmp t)=>(dX c.args.toList).map (MOp.defer (.t t))
  | .value (.func f)=>(dX c.args.toList).map (MOp.defer (.c (.func f)))
  | _=>none
 | .panic x=>(ao x).map MOp.panic
 | .makeInterface t x=>match G9 P t,ao x with
  | true,some x=>some (.vN t x)
  | _,_=>none
 | .typeAssert x _ t true=>match G9 P t,zeroV P t,ao x with
  | true,some z,some x=>none
  | _,_,_=>none
 | .extract x i=>(ao x).map (MOp.ext · i)
 | .field s x f=>match P.underlying s with
  | some (.struct fs)=>match fs[f]? with
   | some fd=>match kK P fd.type,sizeT P fd.type,ao x with
    | some g,some k,some x=>some (.zb g k fd.offset x)
    | _,_,_=>none
   | none=>none
  | _=>none
 | .buildSlice t len ps=>match DX P t,nA ps.toList with
  | some (_,k,_,zs),some qs=>match Nat.ble (len * k) 16777216 with
   | true=>match pol.sub.contains 1000001&&Nat.blt 0 len with
    | true=>some (.xH len ((List.replicate len zs).flatten) (qs.map fun y=>(y.1 * k,k,y.2)))
    | false=>match pol.sub.contains 1000002 with
     | true=>some (.zK k len zs qs)
     | false=>some (.aW k len zs qs)
   | false=>none
  | _,_=>none
 | .makeSlice t l cp=>match DX P t,ao l,ao cp with
  | some (e,k,bytes,zs),some l,some cp=>match pol.fam&&VO P e&&Nat.beq k 1,zs with
   | true,[z]=>some (.yA bytes z l cp)
   | _,_=>some (.EU pol.mt k bytes zs l cp)
  | _,_,_=>none
 | .slice t x lo hi none=>match P.underlying t with
  | some .string=>match ao x,lk lo,lk hi with
   | some x,some lo,some hi=>some (.rH x lo hi)
   | _,_,_=>none
  | some (.slice e)=>match sizeT P e,ao x,lk lo,lk hi with
   | some k,some x,some lo,some hi=>some (.sl k x lo hi)
   | _,_,_,_=>none
  | _=>none
 | .slice t x lo (some hi) (some mx)=>match P.underlying t with
  | some (.slice e)=>match sizeT P e,ao x,lk lo,ao hi,ao mx with
   | some k,some x,some lo,some hi,some mx=>none
   | _,_,_,_,_=>none
  | _=>none
 | _=>none
def zP (ops:List Oper):Option (Nat×Bool)->Option (Option (Nat×Bool))
 | none=>some none
 | some (j,b)=>match ops[j]? with
  | some o=>match o.dst with
   | some d=>some (some (d,b))
   | none=>none
  | none=>none
def dV (P:Program) (n:Nat) (pol:Pol) (ops:List Oper):List Oper->Option (List MI)
 | []=>some []
 | o::r=>match zP ops o.guard,EX P pol o,dV P n pol ops r,(match o.dst with|some d=>Nat.blt d n|none=>true) with
  | some g,some m,some l,true=>some (⟨g,o.dst,m⟩::l)
  | _,_,_,_=>none
def iO:MOp->Bool
 | .mov _ | .pick _ _ _ | .build _ _ | .load _ _ _ | .fld _ _ | .cC _ | .idx _ _ _ | .idxs _ _ | .len _ _ | .bin _ _ _ | .eqb _ _ _ | .not _ | .call _ _ | .ext _ _ | .aW _ _ _ _ | .sl _ _ _ _ | .rH _ _ _ | .eqs _ _ _ _ | .mm _ _ _ | .lkp _ _ _ _ _ | .Dk _ | .zb _ _ _ _ | .fw _ | .vO _ _ _ _ _=>true
 | _=>false
def Opd.tmps:Opd->List Nat
 | .t n=>[n]
 | .c _=>[]
def jn:List Opd->List Nat
 | []=>[]
 | x::r=>x.tmps++jn r
def m9:List (Nat×Nat×Opd)->List Nat
 | []=>[]
 | (_,_,x)::r=>x.tmps++m9 r
def xI:List (Nat×Opd)->List Nat
 | []=>[]
 | (_,x)::r=>x.tmps++xI r
def vQ:Option Opd->List Nat
 | none=>[]
 | some x=>x.tmps
def MOp.tmps:MOp->List Nat
 | .mov x=>x.tmps
 | .pick c a b=>c.tmps++a.tmps++b.tmps
 | .build _ ps=>m9 ps
 | .load _ _ a=>a.tmps
 | .fld _ a=>a.tmps
 | .cC x=>x.tmps
 | .idx _ s i=>s.tmps++i.tmps
 | .idxs s i=>s.tmps++i.tmps
 | .len _ s=>s.tmps
 | .bin _ x y=>x.tmps++y.tmps
 | .eqb _ x y=>x.tmps++y.tmps
 | .not x=>x.tmps
 | .call _ xs=>jn xs
 | .ext x _=>x.tmps
 | .aW _ _ _ ps=>xI ps
 | .sl _ x lo hi=>x.tmps++vQ lo++vQ hi
 | .rH x lo hi=>x.tmps++vQ lo++vQ hi
 | .eqs _ _ x y=>x.tmps++y.tmps
 | .eqn _ x=>x.tmps
 | .eqi _ x=>x.tmps
 | .sub _ xs=>jn xs
 | .lp x xs=>x.tmps++jn xs
 | .mK _ xs ys=>jn xs++jn ys
 | .defer x xs=>x.tmps++jn xs
 | .panic x=>x.tmps
 | .vN _ x=>x.tmps
 | .box x=>x.tmps
 | .alloc _=>[]
 | .store _ a x=>a.tmps++x.tmps
 | .app _ _ _ s x=>s.tmps++x.tmps
 | .EU _ _ _ _ l c=>l.tmps++c.tmps
 | .mm _ x y=>x.tmps++y.tmps
 | .lq _=>[]
 | .lkp _ _ _ m x=>m.tmps++x.tmps
 | .oD _ m x v=>m.tmps++x.tmps++v.tmps
 | .Dk m=>m.tmps
 | .rng x=>x.tmps
 | .nxt x=>x.tmps
 | .zb _ _ _ x=>x.tmps
 | .fw a=>a.tmps
 | .qJ a x=>a.tmps++x.tmps
 | .yA _ _ l c=>l.tmps++c.tmps
 | .LY _ _ s x=>s.tmps++x.tmps
 | .vO _ _ _ m x=>m.tmps++x.tmps
 | .yB _ m x v=>m.tmps++x.tmps++v.tmps
 | .xH _ _ ps=>m9 ps
 | .zK _ _ _ ps=>xI ps
def MI.tmps (i:MI):List Nat:=(match i.g with|some (t,_)=>[t]|none=>[])++i.op.tmps
def canon (h m:Nat):Array Bool:=((List.range m).map fun i=>decide (i<h)).toArray
def Vl (ops:List Oper) (mi:List MI) (i j:Nat):Bool:=
 match mi[i]?,mi[j]? with
 | some a,some b=>match b.dst with
  | some t=>(a.dst != some t)&&(!(a.tmps.contains t)||(if j<i then Region.waitsFor .any ops.toArray i j else Region.waitsFor .any ops.toArray j i))
  | none=>true
 | _,_=>false
def Hf (ops:List Oper) (mi:List MI) (h:Nat):Bool:=
 decide (h<=ops.length)&&((mi.take h).all fun i=>iO i.op)&&
 ((List.range h).all fun i=>match ops[i]? with|some o=>o.after.all (fun e=>!Region.binds .any e||decide (e.on<i))|none=>false)&&
 ((List.range h).all fun i=>(List.range h).all fun j=>(i == j)||Vl ops mi i j)&&
 (h == ops.length||(Region.sinkB .any ops.toArray h&&Region.chainB .any ops.toArray h))&&
 Region.seqB .any ops.toArray (ops.length - h) h (canon h ops.length)
def headLen (l:List MI):Nat:=(l.takeWhile fun i=>iO i.op).length
def EY (o:Oper):List Nat:=(o.after.toList.filter fun e=>Region.binds .any e).map (·.on)
def er:List Oper->List MI->List DOp
 | o::r,i::r'=>⟨i,EY o,!iO i.op⟩::er r r'
 | _,_=>[]
def Vm (mi:List DOp) (i j:Nat):Bool:=
 match mi[i]?,mi[j]? with
 | some a,some b=>match b.mi.dst with
  | some t=>(a.mi.dst != some t)&&(!(a.mi.tmps.contains t)||(decide (j<i)&&sr a.dep j))
  | none=>true
 | _,_=>false
def N3 (o:DOp):Bool:=
 match o.mi.dst with
 | some t=>!(o.mi.tmps.contains t)
 | none=>true
def zQ (l:List DOp):Bool:=
 ((List.range l.length).all fun i=>match l[i]? with|some o=>o.dep.all (fun j=>decide (j<i))&&(!o.loud||o.mi.g.isNone)&&N3 o|none=>false)&&
 ((List.range l.length).all fun i=>(List.range l.length).all fun j=>(i == j)||Vm l i j)
def xJ:List DOp->Nat
 | []=>0
 | o::r=>match o.loud with
  | true=>xJ r+1
  | false=>xJ r
def comp (P:Program) (n:Nat) (pol:Pol):Code->Option ck
 | .skip=>some .skip
 | .region _ ops false=>(dV P n pol ops.toList ops.toList).map ck.ops
 | .region _ ops true=>match P.follows .mixedOrders,dV P n pol ops.toList ops.toList with
  | true,some l=>match Hf ops.toList l (headLen l) with
   | true=>some (.ops l)
   | false=>match zQ (er ops.toList l) with
    | true=>some (.draw (xJ (er ops.toList l)) (er ops.toList l))
    | false=>none
  | _,_=>none
 | .seq a b=>match comp P n pol a,comp P n pol b with
  | some a,some b=>some (.seq a b)
  | _,_=>none
 | .cond c x y=>match ao c,comp P n pol x,comp P n pol y with
  | some c,some x,some y=>some (.cond c x y)
  | _,_,_=>none
 | .block id c=>(comp P n pol c).map (ck.block id)
 | .loop c=>(comp P n pol c).map ck.loop
 | .exit id=>some (.exit id)
 | .ret=>some .ret
 | .scope c=>(comp P n pol c).map (ck.seq .skip)
 | .label _=>some .skip
 | _=>none
end Uw
namespace Uw
open Go Go.RowKit
def one:Value->Bool
 | .agg _ | .tuple _=>false
 | _=>true
mutual
def aI (w:World) (J:Nat->Nat->Prop):Dat->Value->Prop
 | .bool b,v=>v = .bool b
 | .int k n,v=>v = .int k n
 | .str s,v=>v = .string ⟨s.toArray⟩
 | .nil,v=>v = .slice none 0 0
 | .slice k xs z,v=>((∃x:Option Addr,v = .slice x 0 0/\(z=true->True))/\xs=[])\/∃b o cap,v = .slice (some ⟨b,o,none⟩) xs.length cap/\xs.length<=cap/\(z=true->cap=xs.length)/\cS w J b k o xs
 | .agg cs,v=>∃vs:List Value,v = .agg vs.toArray/\bp w J cs vs
 | .func f,v=>v = .func (.func f) #[] #[]
 | .nilFunc,v=>v = .nilFunc
 | .nilIface,v=>v = .nilIface
 | .nilPtr,v=>v = .pointer none
 | .bg,v=>v = .map none
 | .iface t d,v=>∃u,v = .iface t u/\aI w J d u
 | .tuple ds,v=>∃vs:List Value,v = .tuple vs.toArray/\bp w J ds vs
def bp (w:World) (J:Nat->Nat->Prop):List Dat->List Value->Prop
 | [],vs=>vs=[]
 | d::ds,vs=>∃v vs',vs=v::vs'/\aI w J d v/\bp w J ds vs'
def dR (w:World) (J:Nat->Nat->Prop) (b:Nat):Nat->List Dat->Prop
 | _,[]=>True
 | o,d::ds=>(∃v,w.cell? ⟨b,o,none⟩=some v/\J b o/\one v=true/\aI w J d v)/\dR w J b (o+1) ds
def cS (w:World) (J:Nat->Nat->Prop) (b k:Nat):Nat->List (List Dat)->Prop
 | _,[]=>True
 | o,c::cs=>c.length=k/\dR w J b o c/\cS w J b k (o+k) cs
end
def Keeps (w w' : World) (J J' : Nat->Nat->Prop):Prop:=∀b o,J b o->J' b o/\w'.cell? ⟨b,o,none⟩=w.cell? ⟨b,o,none⟩
mutual
theorem aI.keep {w w' : World} {J J' : Nat->Nat->Prop} (h:Keeps w w' J J'):∀(d:Dat) (v:Value),aI w J d v->aI w' J' d v
 | .bool b,v,r=>r
 | .int k n,v,r=>r
 | .str s,v,r=>r
 | .nil,v,r=>r
 | .slice k xs z,v,.inl r=>.inl r
 | .slice k xs z,v,.inr ⟨b,o,cap,h1,h2,h3,h4⟩=>.inr ⟨b,o,cap,h1,h2,h3,cS.keep h b k o xs h4⟩
 | .agg cs,v,⟨vs,h1,h2⟩=>⟨vs,h1,bp.keep h cs vs h2⟩
 | .func f,v,r=>r
 | .nilFunc,v,r=>r
 | .nilIface,v,r=>r
 | .nilPtr,v,r=>r
 | .bg,v,r=>r
 | .iface t d,v,⟨u,h1,h2⟩=>⟨u,h1,aI.keep h d u h2⟩
 | .tuple ds,v,⟨vs,h1,h2⟩=>⟨vs,h1,bp.keep h ds vs h2⟩
theorem bp.keep {w w' : World} {J J' : Nat->Nat->Prop} (h:Keeps w w' J J'):∀(ds:List Dat) (vs:List Value),bp w J ds vs->bp w' J' ds vs
 | [],vs,r=>r
 | d::ds,vs,⟨v,vs',h1,h2,h3⟩=>⟨v,vs',h1,aI.keep h d v h2,bp.keep h ds vs' h3⟩
theorem dR.keep {w w' : World} {J J' : Nat->Nat->Prop} (h:Keeps w w' J J') (b:Nat):∀(o:Nat) (ds:List Dat),dR w J b o ds->dR w' J' b o ds
 | o,[],_=>trivial
 | o,d::ds,⟨⟨v,h1,h2,h5,h3⟩,h4⟩=>⟨⟨v,by rw [(h b o h2).2];exact h1,(h b o h2).1,h5,aI.keep h d v h3⟩,dR.keep h b (o+1) ds h4⟩
theorem cS.keep {w w' : World} {J J' : Nat->Nat->Prop} (h:Keeps w w' J J') (b k:Nat):∀(o:Nat) (cs:List (List Dat)),cS w J b k o cs->cS w' J' b k o cs
 | o,[],_=>trivial
 | o,c::cs,⟨h1,h2,h3⟩=>⟨h1,dR.keep h b o c h2,cS.keep h b k (o+k) cs h3⟩
end
class Glob where
 n:Nat
 p:World->Prop
 ok:∀(w w' : World),(∀k,k<n->w'.heap[k]? = w.heap[k]?)->p w->p w'
def GOk [Glob] (B:Nat) (w:World):Prop:=B<=w.heap.size/\Glob.n<=B/\Glob.p w
variable [Glob]
def Ret (P:Program) (f:FuncId) (args:List Dat) (r:Dat):Prop:=
 ∀(w:World) (J:Nat->Nat->Prop) (vs:List Value),GOk w.heap.size w->bp w J args vs->
  Calls P f vs.toArray w fun e w'=>∃v,e = .returned v/\aI w' (fun b o=>J b o\/(w.heap.size<=b/\b<w'.heap.size)) r v/\Below w.heap.size w w'
structure Pl where
 gb:Nat
 cap:Nat
def Ph (p:Pl):Blk->Prop
 | .arr _ _=>0<p.cap
 | .mt _ _ _=>0<p.cap
 | _=>True
structure JX where
 J:Nat->Nat->Prop
 X:Nat->Prop
structure Cx where
 B:Nat
 J0:JX
 heap:Heap
 pl:Nat->Pl
 w:World
def Cx.Old (c:Cx) (b:Nat):Prop:=b<c.B\/c.J0.X b
def Imm (c:Cx) (b o:Nat):Prop:=
 (c.Old b/\c.J0.J b o)\/(¬c.Old b/\b<c.w.heap.size/\∀id blk,look c.heap id=some blk->Ph (c.pl id) blk->(c.pl id).gb=b->∃k xs,blk = .arr k xs/\o<xs.length * k)
def kL (c:Cx) (id ver off len:Nat) (gv:Value):Option Blk->Prop
 | some (.arr k xs)=>off+len<=xs.length/\((gv = .slice none 0 0/\len=0/\(off=xs.length->(c.pl id).cap=off))\/∃b o cap,gv = .slice (some ⟨b,o,none⟩) len cap/\len<=cap/\cS c.w (Imm c) b k o ((xs.drop off).take len)/\
   (off+len=xs.length->cap=(c.pl id).cap - off/\(off<(c.pl id).cap->b=(c.pl id).gb/\o=off * k)))
 | some (.mt k dU xs)=>ver<=dU/\(∃x l cp,gv = .slice x l cp)/\(ver=dU->off+len<=xs.length/\((gv = .slice none 0 0/\len=0/\off=0/\(c.pl id).cap=0)\/∃b o,gv = .slice (some ⟨b,o,none⟩) len ((c.pl id).cap - off)/\(off<(c.pl id).cap->b=(c.pl id).gb/\o=off * k)))
 | _=>False
def jV (c:Cx) (id ver i cc:Nat) (gv:Value):Option Blk->Prop
 | some (.mt k dU xs)=>ver<=dU/\(∃x,gv = .pointer x)/\(ver=dU->i<xs.length/\gv = .pointer (some ⟨(c.pl id).gb,i * k+cc,none⟩))
 | _=>False
def jW:Option IntKind->oC->Value->Prop
 | some k,.i n,v=>v = .int k n
 | none,.s b,v=>v = .string ⟨b.toArray⟩
 | _,_,_=>False
def qd (w:World) (J:Nat->Nat->Prop) (kk:Option IntKind):List (oC×Dat)->List MapEntry->Prop
 | [],ms=>ms=[]
 | (k,d)::r,ms=>∃m ms',ms=m::ms'/\jW kk k m.key/\aI w J d m.val/\qd w J kk r ms'
theorem qd.keep {w w' : World} {J J' : Nat->Nat->Prop} (h:Keeps w w' J J') {kk:Option IntKind}:∀(es:List (oC×Dat)) (ms:List MapEntry),qd w J kk es ms->qd w' J' kk es ms
 | [],ms,r=>r
 | (k,d)::es,ms,⟨m,ms',h1,h2,h3,h4⟩=>⟨m,ms',h1,h2,aI.keep h d _ h3,qd.keep h es ms' h4⟩
def fU (c:Cx) (id:Nat) (gv:Value):Option Blk->Prop
 | some (.map _ _)=>gv = .map (some (c.pl id).gb)
 | some (.iter _ _)=>gv = .pointer (some ⟨(c.pl id).gb,0,none⟩)
 | _=>False
mutual
def aB (c:Cx):V->Value->Prop
 | .d x,v=>aI c.w (Imm c) x v
 | .ptr id off,v=>(∃cs,look c.heap id=some (.var cs))/\v = .pointer (some ⟨(c.pl id).gb,off,none⟩)
 | .ro cs off,v=>∃b o,v = .pointer (some ⟨b,o+off,none⟩)/\dR c.w (Imm c) b o cs
 | .nu id ver i cc,v=>jV c id ver i cc v (look c.heap id)
 | .ref id ver off len,v=>kL c id ver off len v (look c.heap id)
 | .agg cs,v=>∃vs:List Value,v = .agg vs.toArray/\ay c cs vs
 | .func f first cap,v=>∃fs vs:List Value,v = .func (.func f) fs.toArray vs.toArray/\ay c first fs/\ay c cap vs
 | .tuple ds,v=>∃vs:List Value,v = .tuple vs.toArray/\ay c ds vs
 | .hnd id,v=>fU c id v (look c.heap id)
 | .row id len,v=>(∃cs,look c.heap id=some (.var cs))/\v = .slice (some ⟨(c.pl id).gb,0,none⟩) len len/\0<len
 | .undef,_=>True
def ay (c:Cx):List V->List Value->Prop
 | [],vs=>vs=[]
 | d::ds,vs=>∃v vs',vs=v::vs'/\aB c d v/\ay c ds vs'
end
def cU (c:Cx) (id:Nat):Blk->Prop
 | .var cs=>∃vs e,c.w.heap[(c.pl id).gb]? = some (.cells vs e (0,0))/\ay c cs vs.toList
 | .arr k xs=>xs.length<=(c.pl id).cap/\(0<(c.pl id).cap->∃vs e,c.w.heap[(c.pl id).gb]? = some (.cells vs e (0,0))/\vs.size=(c.pl id).cap * k/\cS c.w (Imm c) (c.pl id).gb k 0 xs)
 | .mt k _ xs=>xs.length<=(c.pl id).cap/\(∀x∈xs,x.length=k)/\(0<(c.pl id).cap->∃vs e,c.w.heap[(c.pl id).gb]? = some (.cells vs e (0,0))/\vs.size=(c.pl id).cap * k/\
   bp c.w (Imm c) xs.flatten (vs.toList.take (xs.length * k))/\∀v∈vs.toList.take (xs.length * k),one v=true)
 | .iter s pos=>c.w.heap[(c.pl id).gb]? = some (.stringIter ⟨s.toArray⟩ pos)
 | .map kk es=>∃ms clock,c.w.heap[(c.pl id).gb]? = some (.map ms clock)/\qd c.w (Imm c) kk es ms.toList
def mM (c:Cx) (r:gw) (t:Array Value):Prop:=∀i v,look r i=some v->aB c v (t.getD i undef)
def cH (c:Cx):List V->List Deferred->Prop
 | [],ds=>ds=[]
 | v::vs,ds=>∃d ds' f first cap fs cs,ds=d::ds'/\v = .func f first cap/\d={ target:=.fn (.func f) cs.toArray,args:=fs.toArray }/\ay c first fs/\ay c cap cs/\cH c vs ds'
structure c9 (c:Cx) (w0:World) (next:Nat):Prop where
 below:Below c.B w0 c.w
 other:∀b,c.J0.X b->b<w0.heap.size/\c.w.heap[b]? = w0.heap[b]?
 lr:GOk c.B w0
 blk:∀id b,look c.heap id=some b->cU c id b
 lt:∀id b,look c.heap id=some b->id<next
 ge:∀id b,look c.heap id=some b->Ph (c.pl id) b->¬c.Old (c.pl id).gb
 inj:∀id id' b b',look c.heap id=some b->look c.heap id' = some b'->Ph (c.pl id) b->Ph (c.pl id') b'->(c.pl id).gb=(c.pl id').gb->id=id'
def dm (p p' : Pl):Blk->Blk->Prop
 | .var _,.var _=>p.gb=p'.gb
 | .arr k xs,.arr k' xs'=>k=k'/\(∃ys,xs' = xs++ys)/\(xs' = xs->p' = p)
 | .mt k ver xs,.mt k' dU xs'=>k=k'/\ver<=dU/\(dU = ver->p' = p/\xs'.length=xs.length)
 | .iter _ _,.iter _ _=>p.gb=p'.gb
 | .map kk _,.map kk' _=>kk=kk'/\p.gb=p'.gb
 | _,_=>False
structure qN (K:Nat) (c c' : Cx):Prop where
 keeps:Keeps c.w c'.w (Imm c) (Imm c')
 blks:∀id b,id<K->look c.heap id=some b->∃b',look c'.heap id=some b'/\dm (c.pl id) (c'.pl id) b b'
structure Evo (c c' : Cx):Prop where
 keeps:Keeps c.w c'.w (Imm c) (Imm c')
 blks:∀id b,look c.heap id=some b->∃b',look c'.heap id=some b'/\dm (c.pl id) (c'.pl id) b b'
theorem Evo.toK {c c' : Cx} (h:Evo c c') (K:Nat):qN K c c':=⟨h.keeps,fun id b _ hb=>h.blks id b hb⟩
structure Fr where
 K:Nat
 p:Cx->Prop
 ok:∀c c',qN K c c'->p c->p c'
def Fr.none:Fr:=⟨0,fun _=>True,fun _ _ _ _=>trivial⟩
structure Rel (c:Cx) (w0:World) (n:Nat) (gs:Fr) (st:St) (a:Act):Prop where
 heap:c.heap=st.heap
 hrel:c9 c w0 st.next
 size:a.tmps.size=n
 regs:mM c st.regs a.tmps
 frames:gs.p c
 kx:gs.K<=st.base
 base:st.base<=st.next
 defers:cH c st.defers a.defers
theorem kL.evo {K:Nat} {c c' : Cx} (h:qN K c c') {id ver off len:Nat} (hK:id<K) {gv:Value} (r:kL c id ver off len gv (look c.heap id)):kL c' id ver off len gv (look c'.heap id):=by
 cases hl:look c.heap id with
 | none=>rw [hl] at r;exact r.elim
 | some b=>
  obtain ⟨b',hb',he⟩:=h.blks id b hK hl;rw [hl] at r;rw [hb']
  cases b with
  | var cs=>exact r.elim
  | iter s p=>exact r.elim
  | map kk es=>exact r.elim
  | arr k xs=>
   cases b' with
   | arr k' xs'=>
    obtain ⟨rfl,⟨ys,rfl⟩,hp⟩:=he;obtain ⟨h1,r⟩:=r;have hys:off+len=(xs++ys).length->ys=[]:=by
     intro hlen;simp at hlen;exact aaM (by omega)
    refine ⟨by simp;omega,?_⟩
    rcases r with ⟨r1,r2,r3⟩|⟨b0,o,cap,h2,h3,h4,h5⟩
    ·refine .inl ⟨r1,r2,fun hlen=>?_⟩
     have:=hys (by omega);subst this;simp at hp hlen;rw [hp];exact r3 hlen
    ·refine .inr ⟨b0,o,cap,h2,h3,?_,?_⟩
     ·have:((xs++ys).drop off).take len=(xs.drop off).take len:=by
       rw [List.drop_append_of_le_length (by omega),List.take_append_of_le_length (by simp;omega)]
      rw [this];exact cS.keep h.keeps _ _ _ _ h4
     ·intro hlen
      have:=hys hlen;subst this;simp at hp;rw [hp];exact h5 (by simpa using hlen)
   | _=>exact he.elim
  | mt k v xs=>
   cases b' with
   | mt k' v' xs'=>
    obtain ⟨rfl,hle,hp⟩:=he;obtain ⟨r1,r3,r2⟩:=r;refine ⟨aa7 r1 hle,r3,fun hv=>?_⟩;have hvv:v' = v:=by omega
    obtain ⟨hp1,hp2⟩:=hp hvv;rw [hp1,hp2];exact r2 (by omega)
   | _=>exact he.elim
theorem jV.evo {K:Nat} {c c' : Cx} (h:qN K c c') {id ver i cc:Nat} (hK:id<K) {gv:Value} (r:jV c id ver i cc gv (look c.heap id)):jV c' id ver i cc gv (look c'.heap id):=by
 cases hl:look c.heap id with
 | none=>rw [hl] at r;exact r.elim
 | some b=>
  obtain ⟨b',hb',he⟩:=h.blks id b hK hl;rw [hl] at r;rw [hb']
  cases b with
  | var cs=>exact r.elim
  | iter s p=>exact r.elim
  | map kk es=>exact r.elim
  | arr k xs=>exact r.elim
  | mt k v xs=>
   cases b' with
   | mt k' v' xs'=>
    obtain ⟨rfl,hle,hp⟩:=he;obtain ⟨r1,r3,r2⟩:=r;refine ⟨aa7 r1 hle,r3,fun hv=>?_⟩;have hvv:v' = v:=by omega
    obtain ⟨hp1,hp2⟩:=hp hvv;rw [hp1,hp2];exact r2 (by omega)
   | _=>exact he.elim
theorem fU.evo {K:Nat} {c c' : Cx} (h:qN K c c') {id:Nat} (hK:id<K) {gv:Value} (r:fU c id gv (look c.heap id)):fU c' id gv (look c'.heap id):=by
 cases hl:look c.heap id with
 | none=>rw [hl] at r;exact r.elim
 | some b=>
  obtain ⟨b',hb',he⟩:=h.blks id b hK hl;rw [hl] at r;rw [hb']
  cases b with
  | iter s p=>
   cases b' with
   | iter s' p'=>simp only [dm] at he;simp only [fU] at r ⊢;rw [<- he];exact r
   | _=>exact he.elim
  | map kk es=>
   cases b' with
   | map kk' es'=>simp only [dm] at he;simp only [fU] at r ⊢;rw [<- he.2];exact r
   | _=>exact he.elim
  | _=>exact r.elim
theorem dm.N4 {p p' : Pl} {b b' : Blk} (h:dm p p' b b') (hv:∃cs,b = .var cs):p.gb=p'.gb/\∃cs,b' = .var cs:=by
 obtain ⟨cs,rfl⟩:=hv
 cases b' with
 | var cs'=>exact ⟨h,cs',rfl⟩
 | _=>exact h.elim
mutual
def V.lt (K:Nat):V->Prop
 | .ptr id _=>id<K
 | .nu id _ _ _=>id<K
 | .ref id _ _ _=>id<K
 | .agg cs=>ltL K cs
 | .func _ fs cs=>ltL K fs/\ltL K cs
 | .tuple cs=>ltL K cs
 | .d _=>True
 | .ro _ _=>True
 | .hnd id=>id<K
 | .row id _=>id<K
 | .undef=>True
def ltL (K:Nat):List V->Prop
 | []=>True
 | v::r=>v.lt K/\ltL K r
end
mutual
theorem aB.lt {c:Cx} {K:Nat} (h:∀id b,look c.heap id=some b->id<K):∀(x:V) (v:Value),aB c x v->x.lt K
 | .d x,v,r=>trivial
 | .ptr id off,v,⟨⟨cs,h1⟩,_⟩=>h id _ h1
 | .ro cs off,v,_=>trivial
 | .nu id ver i cc,v,r=>by
  simp only [aB] at r
  cases hl:look c.heap id with
  | none=>rw [hl] at r;exact r.elim
  | some b=>exact h id b hl
 | .ref id ver off len,v,r=>by
  simp only [aB] at r
  cases hl:look c.heap id with
  | none=>rw [hl] at r;exact r.elim
  | some b=>exact h id b hl
 | .agg cs,v,⟨vs,h1,h2⟩=>ay.lt h cs vs h2
 | .func f fs cs,v,⟨us,vs,h1,h2,h3⟩=>⟨ay.lt h fs us h2,ay.lt h cs vs h3⟩
 | .tuple ds,v,⟨vs,h1,h2⟩=>ay.lt h ds vs h2
 | .hnd id,v,r=>by
  simp only [aB] at r
  cases hl:look c.heap id with
  | none=>rw [hl] at r;exact r.elim
  | some b=>exact h id b hl
 | .row id len,v,⟨⟨cs,h1⟩,_⟩=>h id _ h1
 | .undef,v,r=>trivial
theorem ay.lt {c:Cx} {K:Nat} (h:∀id b,look c.heap id=some b->id<K):∀(xs:List V) (vs:List Value),ay c xs vs->ltL K xs
 | [],vs,r=>trivial
 | d::ds,vs,⟨v,vs',h1,h2,h3⟩=>⟨aB.lt h d v h2,ay.lt h ds vs' h3⟩
end
mutual
theorem aB.uZ {K:Nat} {c c' : Cx} (h:qN K c c'):∀(x:V) (v:Value),x.lt K->aB c x v->aB c' x v
 | .d x,v,_,r=>aI.keep h.keeps x v r
 | .ptr id off,v,hK,r=>by
  obtain ⟨⟨cs,h1⟩,h2⟩:=r;obtain ⟨b',hb',he⟩:=h.blks id _ hK h1;obtain ⟨hg,cs',rfl⟩:=he.N4 ⟨cs,rfl⟩;exact ⟨⟨cs',hb'⟩,by rw [<- hg];exact h2⟩
 | .ro cs off,v,_,⟨b,o,h1,h2⟩=>⟨b,o,h1,dR.keep h.keeps _ _ _ h2⟩
 | .nu id ver i cc,v,hK,r=>jV.evo h hK r
 | .ref id ver off len,v,hK,r=>kL.evo h hK r
 | .agg cs,v,hK,⟨vs,h1,h2⟩=>⟨vs,h1,ay.uZ h cs vs hK h2⟩
 | .func f fs cap,v,hK,⟨us,vs,h1,h2,h3⟩=>⟨us,vs,h1,ay.uZ h fs us hK.1 h2,ay.uZ h cap vs hK.2 h3⟩
 | .tuple ds,v,hK,⟨vs,h1,h2⟩=>⟨vs,h1,ay.uZ h ds vs hK h2⟩
 | .hnd id,v,hK,r=>fU.evo h hK r
 | .row id len,v,hK,r=>by
  obtain ⟨⟨cs,h1⟩,h2,h3⟩:=r;obtain ⟨b',hb',he⟩:=h.blks id _ hK h1;obtain ⟨hg,cs',rfl⟩:=he.N4 ⟨cs,rfl⟩;exact ⟨⟨cs',hb'⟩,by rw [<- hg];exact h2,h3⟩
 | .undef,v,_,r=>r
theorem ay.uZ {K:Nat} {c c' : Cx} (h:qN K c c'):∀(xs:List V) (vs:List Value),ltL K xs->ay c xs vs->ay c' xs vs
 | [],vs,_,r=>r
 | d::ds,vs,hK,⟨v,vs',h1,h2,h3⟩=>⟨v,vs',h1,aB.uZ h d v hK.1 h2,ay.uZ h ds vs' hK.2 h3⟩
end
def DY:Heap->Nat
 | []=>0
 | (i,_)::r=>max (i+1) (DY r)
theorem zR:∀(h:Heap) (id:Nat) (b:Blk),look h id=some b->id<DY h
 | [],id,b,hh=>by simp [look] at hh
 | (i,x)::r,id,b,hh=>by
  rw [look] at hh
  split at hh
  ·rename_i hb
   have:=aaB hb;subst this;simp only [DY];omega
  ·have:=zR r id b hh
   simp only [DY];omega
theorem aB.evo {c c' : Cx} (h:Evo c c') (x:V) (v:Value) (r:aB c x v):aB c' x v:=aB.uZ (h.toK (DY c.heap)) x v (aB.lt (zR c.heap) x v r) r
theorem ay.evo {c c' : Cx} (h:Evo c c') (xs:List V) (vs:List Value) (r:ay c xs vs):ay c' xs vs:=ay.uZ (h.toK (DY c.heap)) xs vs (ay.lt (zR c.heap) xs vs r) r
theorem mM.evo {c c' : Cx} (h:Evo c c') {r:gw} {t:Array Value} (hr:mM c r t):mM c' r t:=fun i v hv=>aB.evo h v _ (hr i v hv)
theorem cH.evo {c c' : Cx} (h:Evo c c'):∀{vs:List V} {ds:List Deferred},cH c vs ds->cH c' vs ds
 | [],_,r=>r
 | v::vs,ds,⟨d,ds',f,first,cap,fs,cs,h1,h2,h3,h4,h6,h5⟩=>⟨d,ds',f,first,cap,fs,cs,h1,h2,h3,ay.evo h _ _ h4,ay.evo h _ _ h6,cH.evo h h5⟩
theorem cU.evo {c c' : Cx} (h:Evo c c') {id:Nat} {b:Blk} (hp:c'.pl id=c.pl id) (hw:Ph (c.pl id) b->c'.w.heap[(c.pl id).gb]? = c.w.heap[(c.pl id).gb]?) (r:cU c id b):cU c' id b:=by
 cases b with
 | var cs=>obtain ⟨vs,e,h1,h2⟩:=r;exact ⟨vs,e,by rw [hp,hw trivial];exact h1,ay.evo h _ _ h2⟩
 | arr k xs=>
  obtain ⟨h0,r⟩:=r;refine ⟨by rw [hp];exact h0,fun hc=>?_⟩;rw [hp] at hc ⊢;obtain ⟨vs,e,h1,h2,h4⟩:=r hc;exact ⟨vs,e,by rw [hw hc];exact h1,h2,cS.keep h.keeps _ _ _ _ h4⟩
 | mt k v xs=>
  obtain ⟨h0,h4,r⟩:=r;refine ⟨by rw [hp];exact h0,h4,fun hc=>?_⟩;rw [hp] at hc ⊢;obtain ⟨vs,e,h1,h2,h5,h6⟩:=r hc;exact ⟨vs,e,by rw [hw hc];exact h1,h2,bp.keep h.keeps _ _ h5,h6⟩
 | iter s p=>unfold cU at *;rw [hp,hw trivial];exact r
 | map kk es=>obtain ⟨ms,k,h1,h2⟩:=r;exact ⟨ms,k,by rw [hp,hw trivial];exact h1,qd.keep h.keeps _ _ h2⟩
theorem Rel.evo {c c' : Cx} {w0:World} {n:Nat} {gs:Fr} {st st' : St} {a:Act} (r:Rel c w0 n gs st a) (h:Evo c c') (hh:c'.heap=st'.heap) (hH:c9 c' w0 st'.next)
  (h1:st'.regs=st.regs) (h2:st'.base=st.base) (h3:st'.defers=st.defers) (h4:st.next<=st'.next):Rel c' w0 n gs st' a:=
 ⟨hh,hH,r.size,by rw [h1];exact r.regs.evo h,gs.ok c c' (h.toK _) r.frames,by rw [h2];exact r.kx,by rw [h2];exact aa7 r.base h4,by rw [h3];exact r.defers.evo h⟩
end Uw
namespace Uw
open Go
def vR (o:Oper):Bool:=match o.op with
 | .defer _=>false
 | _=>true
def noD:Code->Bool
 | .region _ ops _=>ops.toList.all vR
 | .seq x y=>noD x&&noD y
 | .cond _ x y=>noD x&&noD y
 | .block _ x=>noD x
 | .loop x=>noD x
 | .scope _=>false
 | _=>true
structure WPS (P:Program) where
 W:Code->(Exit->Act->World->Prop)->Act->World->Prop
 dfr:Bool
 mono:∀{c Q Q' a w},W c Q a w->(∀e a w,Q e a w->Q' e a w)->W c Q' a w
 skip:∀{Q:Exit->Act->World->Prop} {a w},Q .normal a w->W .skip Q a w
 exit:∀{id:Nat} {Q:Exit->Act->World->Prop} {a w},Q (.exit id) a w->W (.exit id) Q a w
 ret:∀{Q:Exit->Act->World->Prop} {a w},Q .ret a w->W .ret Q a w
 seq:∀{x y Q a w},W x (Exit.then (W y Q) Q) a w->W (.seq x y) Q a w
 cond:∀{c:Operand} {x y:Code} {Q:Exit->Act->World->Prop} {a:Act} {w:World} {t:Bool},a.eval c = .bool t->(t=true->W x Q a w)->(t=false->W y Q a w)->W (.cond c x y) Q a w
 block:∀{id c Q a w},W c (Exit.inBlock id Q) a w->W (.block id c) Q a w
 loop:∀{c:Code} {Q:Exit->Act->World->Prop} {a:Act} {w:World} (I:Act->World->Prop) (μ:Act->World->Nat),I a w->(∀a w,I a w->W c (Exit.then (fun a' w'=>I a' w'/\μ a' w' < μ a w) Q) a w)->W (.loop c) Q a w
 list:∀{id:Nat} {ops:Array Oper} {Q:Exit->Act->World->Prop} {a w},¬LetsOut Q->(dfr=true\/ops.toList.all vR=true)->wpList P ops Q ops.toList a w->W (.region id ops false) Q a w
 scope:dfr=true->∀{c Q a w},W c (Exit.noGoto Q) a w->W (.scope c) Q a w
 label:∀{l:Nat} {Q:Exit->Act->World->Prop} {a w},Q .normal a w->W (.label l) Q a w
 any:∀{id:Nat} {ops:Array Oper} {Q:Exit->Act->World->Prop} {a:Act} {w:World},P.follows .mixedOrders=true->¬LetsOut Q->(dfr=true\/ops.toList.all vR=true)->
  wpAny P .any ops Q ops.size (Array.replicate ops.size false) a { w with drawn:=w.drawn+1 }->W (.region id ops true) Q a w
def plainW (P:Program):WPS P where
 W:=fun c Q a w=>Code.wp P c Q a w
 dfr:=true
 mono:=fun h hq=>Go.wp_mono h hq
 skip:=wp_skip
 exit:=wp_exit
 ret:=wp_ret
 seq:=wp_seq
 cond:=fun hc h1 h2=>wp_cond_split hc h1 h2
 block:=wp_block
 loop:=fun I μ h0 h=>wp_loop I μ h0 h
 list:=fun _ _ h=>wp_region_list h
 scope:=fun _ {_ _ _ _} h=>wp_scope_straight h
 label:=fun h=>wp_label h
 any:=fun hm _ _ h=>wp_region_any hm h
section
variable {P : Program} {Q : Exit -> Act -> World -> Prop} {n l : Nat} {ops : Array Oper}
theorem XY {o:Oper} {a:Act} {w:World} {K:Act->World->Prop} (hd:vR o=true) (h:o.wp P a w K Q):o.wpIn (Fence.wide.inRound l) n P a w K Q:=by
 refine ⟨fun _ _=>trivial,?_⟩;rw [Oper.semAt_eq _ _ _ (fun c hc=>by simp [vR,hc] at hd)];unfold Oper.wp at h;generalize (execOp a.eval o).run P w=r at h
 cases r with
 | ok nx w'=>
  cases nx with
  | enter f args=>
   rw [Oper.upon_enter] at h;rw [Oper.uponIn_enter];refine ⟨fun hh=>by simp [Fence.inRound,Fence.wide] at hh,CallsIn.inRound l ((callsIn_wide (n:=n - 1)).2 (Calls.mono h ?_))⟩;intro e w'' hh
   cases e<;>exact hh
  | row rw args=>
   refine ⟨fun hh=>by simp [Fence.inRound,Fence.wide] at hh,?_⟩;intro c cs _;obtain ⟨v,w'',h1,h2⟩:=h c cs;exact ⟨v,w'',h1,stepsIn_wide.2 h2⟩
  | value v=>exact h
  | skip=>exact h
  | defer d=>exact h
  | _=>exact h.elim
 | halt s w'=>
  cases s<;>first|exact h|exact h.elim
theorem N5 (hno:¬LetsOut Q):∀(L:List Oper),(∀o∈L,vR o=true)->∀(a:Act) (w:World),wpList P ops Q L a w->wpListIn (Fence.wide.inRound l) n P ops Q L a w
 | [],_,a,w,h=>h
 | o::L,hd,a,w,h=>by
  simp only [wpList] at h;simp only [wpListIn]
  split at h
  ·rename_i hw
   rw [if_pos hw]
   rcases h with h|h
   ·exact XY (hd o (by simp)) (Oper.wp_mono (fun a w h=>N5 hno L (fun o ho=>hd o (by simp [ho])) a w h) h)
   ·exact (hno h.2).elim
  ·rename_i hw
   rw [if_neg hw];exact ⟨fun _ _=>trivial,N5 hno L (fun o ho=>hd o (by simp [ho])) _ _ h⟩
theorem KG {md:Region.Mode} (hno:¬LetsOut Q) (hd:∀o∈ops.toList,vR o=true):∀(fuel:Nat) (L:Array Bool) (a:Act) (w:World),wpAny P md ops Q fuel L a w->wpAnyIn (Fence.wide.inRound l) n P md ops Q fuel L a w
 | 0,L,a,w,h=>h
 | fuel+1,L,a,w,h=>by
  refine ⟨h.1,fun i hi=>?_⟩;have h:=h.2 i hi;unfold wpOp at h;unfold wpOpIn
  split
  ·rename_i ho
   rw [ho] at h;exact KG hno hd fuel _ _ _ h
  ·rename_i o ho
   rw [ho] at h;simp only at h
   split at h
   ·rename_i hw
    rw [if_pos hw]
    rcases h with h|h
    ·exact XY (hd o (by rw [Array.mem_toList_iff];exact Array.mem_of_getElem? ho)) (Oper.wp_mono (fun a w h=>KG hno hd fuel _ _ _ h) h)
    ·exact (hno h.2).elim
   ·rename_i hw
    rw [if_neg hw];exact ⟨fun _ _=>trivial,KG hno hd fuel _ _ _ h⟩
end
def N6 (P:Program) (l n:Nat):WPS P where
 W:=fun c Q a w=>Code.wpIn (Fence.wide.inRound l) n P c Q a w
 dfr:=false
 mono:=fun h hq=>wpIn_mono h hq
 skip:=wpIn_skip
 exit:=wpIn_exit
 ret:=wpIn_ret
 seq:=wpIn_seq
 cond:=fun hc h1 h2=>wpIn_cond_split hc h1 h2
 block:=wpIn_block
 loop:=fun I μ h0 h=>wpIn_loop I μ h0 h
 scope:=fun hd=>by cases hd
 label:=fun h=>wpIn_label h
 list:=fun hno hd h=>wpIn_region_list (N5 hno _ (fun o ho=>aaS.1 (hd.resolve_left (by simp)) o ho) _ _ h)
 any:=fun hm hno hd h=>wpIn_region_any hm (KG hno (fun o ho=>aaS.1 (hd.resolve_left (by simp)) o ho) _ _ _ _ h)
theorem WPS.ghost {P:Program} (S:WPS P) {Q:Exit->Act->World->Prop} {a:Act} {w:World} {c:Code} (I:Nat->Act->World->Prop) (n₀:Nat) (h₀:I n₀ a w)
  (round:∀n a w,I n a w->S.W c (Exit.then (fun a' w'=>∃n',n' < n/\I n' a' w') Q) a w):S.W (.loop c) Q a w:=by
 refine S.loop (fun a w=>∃n,I n a w) (fun a w=>leastOf (fun n=>I n a w)) ⟨n₀,h₀⟩ ?_;intro a w hI;refine S.mono (round _ a w (leastOf_spec hI).1) ?_;intro e a' w' hq
 cases e with
 | normal=>
  obtain ⟨n',hlt,hI'⟩:=hq;exact show (∃n,I n a' w')/\leastOf (fun n=>I n a' w')<leastOf (fun n=>I n a w) from ⟨⟨n',hI'⟩,ac3 ((leastOf_spec ⟨n',hI'⟩).2 n' hI') hlt⟩
 | exit id=>exact hq
 | goto l=>exact hq
 | ret=>exact hq
 | panic ch=>exact hq
 | outgrown=>exact hq
def WPS.rounds {P:Program} (S:WPS P) (c:Code) (Q:Exit->Act->World->Prop):Nat->Act->World->Prop
 | 0,_,_=>False
 | n+1,a,w=>S.W c (Exit.then (WPS.rounds S c Q n) Q) a w
theorem WPS.XZ {P:Program} (S:WPS P) {Q:Exit->Act->World->Prop} {a:Act} {w:World} {c:Code} (n:Nat) (h:S.rounds c Q n a w):S.W (.loop c) Q a w:=by
 refine S.ghost (fun n a w=>S.rounds c Q n a w) n h ?_;intro n a w h
 cases n with
 | zero=>exact h.elim
 | succ n=>
  refine S.mono h ?_;intro e a' w' hq
  cases e with
  | normal=>exact ⟨n,by omega,hq⟩
  | exit id=>exact hq
  | goto l=>exact hq
  | ret=>exact hq
  | panic ch=>exact hq
  | outgrown=>exact hq
end Uw
namespace Uw
open Go Go.RowKit
variable [Glob]
def bB (c:Cx):Exit->aG->Prop
 | .normal,.normal=>True
 | .exit i,.exit j=>i=j
 | .ret,.ret=>True
 | .panic ch,.panic d=>∃v,ch=[{ v:=v,recovered:=false }]/\aI c.w (Imm c) d v
 | _,_=>False
def xK (c:Cx):Ending->Res->Prop
 | .returned gv,.val v=>aB c v gv
 | .panicked ch,.pan d=>∃v,ch=[{ v:=v,recovered:=false }]/\aI c.w (Imm c) d v
 | _,_=>False
def mN (P:Program) (f:FuncId):Prop:=∃fn,P.funcs[f]? = some fn/\fn.body.isSome=true/\(fn.name == "runtime.NumGoroutine")=false
def kM (P:Program) (f:FuncId) (vs:List V) (h:Heap) (nx:Nat) (Q:Res->Heap->Nat->Prop):Prop:=
 mN P f/\∀(c:Cx) (w0:World) (F:Fr) (gvs:List Value),c.heap=h->c9 c w0 nx->F.K<=nx->F.p c->ay c vs gvs->
  Calls P f gvs.toArray c.w fun e w'=>∃c' r nx',c'.B=c.B/\c'.J0=c.J0/\c'.w=w'/\c9 c' w0 nx'/\nx<=nx'/\F.p c'/\xK c' e r/\Q r c'.heap nx'
def RN (P:Program) (m:ck) (st:St) (Q:aG->St->Prop):Prop:=
 ∀(S:WPS P) (n:Nat) (pol:Pol) (code:Code),comp P n pol code=some m->(S.dfr=true\/noD code=true)->∀c w0 gs a,Rel c w0 n gs st a->
  S.W code (fun e a' w'=>∃c' me st',c'.B=c.B/\c'.J0=c.J0/\c'.w=w'/\bB c' e me/\Rel c' w0 n gs st' a'/\Q me st') a c.w
def WT (P:Program) (Q:aG->St->Prop):Tree->Prop
 | .done e st=>Q e st
 | .fail=>False
 | .test b y n=>(b=true->WT P Q y)/\(b=false->WT P Q n)
 | .both y n=>WT P Q y/\WT P Q n
 | .same x y t=>x=y/\WT P Q t
 | .elem xs i k=>∃x,xs[i]? = some x/\WT P Q (k x)
 | .byte s i k=>∃x,s[i]? = some x/\WT P Q (k x)
 | .val o k=>∃x,o=some x/\WT P Q (k x)
 | .call f ds k=>∃r,Ret P f ds r/\WT P Q (k r)
 | .sub f vs h nx k=>kM P f vs h nx fun r h' nx'=>WT P Q (k r h' nx')
 | .code m st k=>RN P m st fun e st'=>WT P Q (k e st')
 | .blk o k=>∃x,o=some x/\WT P Q (k x)
 | .Dm o k=>∃x,o=some x/\WT P Q (k x)
 | .heq h k=>∃h',(∀i,look h' i=look h i)/\WT P Q (k h')
section
variable {P : Program} {o : Oper} {a : Act} {K : Act -> World -> Prop} {Qx : Exit -> Act -> World -> Prop} {w w' : World}
theorem cF {gv:Value} (h:(execOp a.eval o).run P w = .ok (.value gv) w') (hk:K (a.put o.dst gv) w'):o.wp P a w K Qx:=by
 unfold Oper.wp;rw [h];exact hk
theorem zS (h:(execOp a.eval o).run P w = .ok .skip w') (hk:K (a.put o.dst undef) w'):o.wp P a w K Qx:=by
 unfold Oper.wp;rw [h];exact hk
end
theorem xM {v:Value} {d:Dat} (h:zN v=some d) (w:World) (J:Nat->Nat->Prop):aI w J d v:=by
 unfold zN at h
 split at h
 case h_9 f x y=>
  split at h
  ·rename_i hx hy
   simp at h hx hy;subst h hx hy;simp [aI]
  ·simp at h
 all_goals first|(simp at h;subst h;simp [aI])|(simp at h)
theorem gx:∀{vs:List Value} {ds:List Dat},jU vs=some ds->∀(w:World) (J:Nat->Nat->Prop),bp w J ds vs
 | [],ds,h,w,J=>by simp [jU] at h;subst h;simp [bp]
 | v::vs,ds,h,w,J=>by
  unfold jU at h
  split at h
  ·rename_i x l hx hl
   simp at h;subst h;exact ⟨v,vs,rfl,xM hx w J,gx hl w J⟩
  ·simp at h
theorem VP {st:St} {t:Nat} {v:V} (h:(Opd.t t).ev st=some v):look st.regs t=some v/\v≠.undef:=by
 simp only [Opd.ev] at h
 split at h
 ·simp at h
 ·rename_i h1;exact ⟨h,fun e=>h1 (by rw [h,e])⟩
theorem yD {st:St} {y:Opd} {v:V} (h:y.ev st=some v):v≠.undef:=by
 cases y with
 | t n=>exact (VP h).2
 | c d=>simp [Opd.ev] at h;subst h;simp
theorem aK {c:Cx} {w0:World} {n:Nat} {gs:Fr} {st:St} {a:Act} (r:Rel c w0 n gs st a) {x:Operand} {y:Opd} (hc:ao x=some y) {v:V} (hv:y.ev st=some v):aB c v (a.eval x):=by
 cases x with
 | tmp t=>simp [ao] at hc;subst hc;exact r.regs t v (VP hv).1
 | const u=>
  simp [ao] at hc;obtain ⟨d,hd,rfl⟩:=hc;simp [Opd.ev] at hv;subst hv;exact xM hd _ _
 | func f=>simp [ao] at hc;subst hc;simp [Opd.ev] at hv;subst hv;simp [aB,aI,Act.eval]
 | global g=>simp [ao] at hc
theorem ay.length {c:Cx}:∀{xs:List V} {vs:List Value},ay c xs vs->vs.length=xs.length
 | [],vs,h=>by simp [ay] at h;simp [h]
 | x::xs,vs,h=>by obtain ⟨v,vs',rfl,_,h3⟩:=h;simp [ay.length h3]
theorem bp.length {w:World} {J:Nat->Nat->Prop}:∀{xs:List Dat} {vs:List Value},bp w J xs vs->vs.length=xs.length
 | [],vs,h=>by simp [bp] at h;simp [h]
 | x::xs,vs,h=>by obtain ⟨v,vs',rfl,_,h3⟩:=h;simp [bp.length h3]
theorem ay.ofL {c:Cx}:∀{ds:List Dat} {vs:List Value},bp c.w (Imm c) ds vs->ay c (ds.map V.d) vs
 | [],vs,h=>by simpa [ay,bp] using h
 | d::ds,vs,h=>by obtain ⟨v,vs',rfl,h2,h3⟩:=h;exact ⟨v,vs',rfl,h2,ay.ofL h3⟩
theorem na {c:Cx} {x:V} {v:Value} (h:aB c x v) (hx:x≠.undef):ay c x.cells v.cells.toList:=by
 cases x with
 | agg cs=>obtain ⟨vs,rfl,h2⟩:=h;simpa [V.cells,Value.cells] using h2
 | d x=>
  cases x with
  | agg ds=>obtain ⟨vs,rfl,h2⟩:=h;simpa [V.cells,Value.cells] using ay.ofL h2
  | bool b=>simp only [aB,aI] at h;subst h;exact ⟨_,[],rfl,by simp [aB,aI],rfl⟩
  | int k n=>simp only [aB,aI] at h;subst h;exact ⟨_,[],rfl,by simp [aB,aI],rfl⟩
  | str s=>simp only [aB,aI] at h;subst h;exact ⟨_,[],rfl,by simp [aB,aI],rfl⟩
  | nil=>simp only [aB,aI] at h;subst h;exact ⟨_,[],rfl,by simp [aB,aI],rfl⟩
  | slice k xs z=>
   have h':=h
   rcases h' with ⟨⟨_,rfl,_⟩,_⟩|⟨b,o,cap,rfl,_⟩
   ·exact ⟨_,[],rfl,h,rfl⟩
   ·exact ⟨_,[],rfl,h,rfl⟩
  | func f=>simp only [aB,aI] at h;subst h;exact ⟨_,[],rfl,by simp [aB,aI],rfl⟩
  | nilFunc=>simp only [aB,aI] at h;subst h;exact ⟨_,[],rfl,by simp [aB,aI],rfl⟩
  | nilIface=>simp only [aB,aI] at h;subst h;exact ⟨_,[],rfl,by simp [aB,aI],rfl⟩
  | nilPtr=>simp only [aB,aI] at h;subst h;exact ⟨_,[],rfl,by simp [aB,aI],rfl⟩
  | bg=>simp only [aB,aI] at h;subst h;exact ⟨_,[],rfl,by simp [aB,aI],rfl⟩
  | iface t d=>obtain ⟨u,rfl,h2⟩:=h;exact ⟨_,[],rfl,⟨u,rfl,h2⟩,rfl⟩
  | tuple ds=>obtain ⟨vs,rfl,h2⟩:=h;exact ⟨_,[],rfl,⟨vs,rfl,h2⟩,rfl⟩
 | ptr id off=>obtain ⟨h1,rfl⟩:=h;exact ⟨_,[],rfl,⟨h1,rfl⟩,rfl⟩
 | ro cs off=>obtain ⟨b,o,rfl,h2⟩:=h;exact ⟨_,[],rfl,⟨b,o,rfl,h2⟩,rfl⟩
 | nu id ver i cc=>
  have h':=h;simp only [aB] at h';unfold jV at h'
  split at h'
  ·obtain ⟨_,⟨x,rfl⟩,_⟩:=h';exact ⟨_,[],rfl,h,rfl⟩
  ·exact h'.elim
 | ref id ver off len=>
  have h':=h;simp only [aB] at h';unfold kL at h'
  split at h'
  ·rcases h' with ⟨_,⟨rfl,_⟩|⟨b,o,cap,rfl,_⟩⟩<;>exact ⟨_,[],rfl,h,rfl⟩
  ·obtain ⟨_,⟨x,l,cp,rfl⟩,_⟩:=h';exact ⟨_,[],rfl,h,rfl⟩
  ·exact h'.elim
 | func f fs cap=>obtain ⟨us,vs,rfl,h2⟩:=h;exact ⟨_,[],rfl,⟨us,vs,rfl,h2⟩,rfl⟩
 | tuple ds=>obtain ⟨vs,rfl,h2⟩:=h;exact ⟨_,[],rfl,⟨vs,rfl,h2⟩,rfl⟩
 | hnd id=>
  have h':=h;simp only [aB] at h';unfold fU at h'
  split at h'
  ·subst h';exact ⟨_,[],rfl,h,rfl⟩
  ·subst h';exact ⟨_,[],rfl,h,rfl⟩
  ·exact h'.elim
 | row id len=>obtain ⟨h1,rfl,h3⟩:=h;exact ⟨_,[],rfl,⟨h1,rfl,h3⟩,rfl⟩
 | undef=>exact (hx rfl).elim
end Uw
namespace Uw
open Go Go.RowKit
variable [Glob]
theorem ai {α:Type} (l:List (Nat×α)) (i j:Nat) (a:α):look ((i,a)::l) j=if i=j then some a else look l j:=by
 rw [look];by_cases h:i=j
 ·subst h;simp
 ·have:Nat.beq i j=false:=by
   rw [acy];intro hb;exact h (aaB hb)
  simp [this,h]
theorem cell_of_block {w w' : World} {b o:Nat} (h:w'.heap[b]? = w.heap[b]?):w'.cell? ⟨b,o,none⟩=w.cell? ⟨b,o,none⟩:=World.cell?_of_block (w:=w) (w':=w') (a:=⟨b,o,none⟩) h
theorem c9.zT {c:Cx} {w0:World} {n:Nat} (h:c9 c w0 n):c.B<=c.w.heap.size:=aa7 h.lr.1 h.below.size
theorem c9.EZ {c:Cx} {w0:World} {n:Nat} (h:c9 c w0 n) {b:Nat} (hb:c.Old b):b<c.w.heap.size:=by
 rcases hb with hb|hb
 ·exact abl hb h.zT
 ·exact abl (h.other b hb).1 h.below.size
theorem c9.su {c:Cx} {w0:World} {n:Nat} (h:c9 c w0 n) {b:Nat} (hb:c.w.heap.size<=b):¬c.Old b:=fun ho=>by have:=h.EZ ho;omega
theorem c9.geB {c:Cx} {w0:World} {n:Nat} (h:c9 c w0 n) {id:Nat} {b:Blk} (hb:look c.heap id=some b) (hph:Ph (c.pl id) b):c.B<=(c.pl id).gb:=aci fun hlt=>h.ge id b hb hph (.inl hlt)
theorem c9.E0 {c:Cx} {w0:World} {n:Nat} (h:c9 c w0 n) {b o:Nat} (hb:Imm c b o):b<c.w.heap.size:=by
 rcases hb with hb|hb
 ·exact h.EZ hb.1
 ·exact hb.2.1
theorem c9.others {c:Cx} {w0:World} {n:Nat} (h:c9 c w0 n) {w' : World} (hk:∀b,c.J0.X b->b<c.w.heap.size->w'.heap[b]? = c.w.heap[b]?):∀b,c.J0.X b->b<w0.heap.size/\w'.heap[b]? = w0.heap[b]?:=fun b hb=>
 ⟨(h.other b hb).1,(hk b hb (h.EZ (.inr hb))).trans (h.other b hb).2⟩
theorem c9.glob {c:Cx} {w0:World} {n:Nat} (h:c9 c w0 n):GOk c.w.heap.size c.w:=
 ⟨aax _,aa7 h.lr.2.1 h.zT,Glob.ok w0 c.w (fun k hk=>h.below.block k (abl hk h.lr.2.1)) h.lr.2.2⟩
theorem c9.jX {c:Cx} {w0:World} {n:Nat} (h:c9 c w0 n) {id:Nat} {b:Blk} (hb:look c.heap id=some b) (hph:Ph (c.pl id) b):(c.pl id).gb<c.w.heap.size:=by
 have:=h.blk id b hb;have key:∀o,c.w.heap[(c.pl id).gb]? = some o->(c.pl id).gb<c.w.heap.size:=by
  intro o ho;by_cases hlt:(c.pl id).gb<c.w.heap.size
  ·exact hlt
  ·rw [abU (by omega)] at ho;cases ho
 cases b with
 | var cs=>obtain ⟨vs,e,h1,_⟩:=this;exact key _ h1
 | arr k xs=>obtain ⟨vs,e,h1,_⟩:=this.2 hph;exact key _ h1
 | mt k v xs=>obtain ⟨vs,e,h1,_⟩:=this.2.2 hph;exact key _ h1
 | iter s p=>exact key _ this
 | map kk es=>obtain ⟨ms,k,h1,_⟩:=this;exact key _ h1
theorem Evo.grow {c:Cx} {w0:World} {n:Nat} {w' : World} (r:c9 c w0 n) (h:Below c.w.heap.size c.w w'):Evo c { c with w:=w' }:=by
 refine ⟨?_,?_⟩
 ·intro b o hi
  refine ⟨?_,?_⟩
  ·rcases hi with hi|⟨h1,h2,h3⟩
   ·exact .inl hi
   ·exact .inr ⟨h1,abl h2 h.size,h3⟩
  ·exact cell_of_block (h.block b (r.E0 hi))
 ·intro id b hb
  refine ⟨b,hb,?_⟩
  cases b<;>simp [dm]
theorem c9.grow {c:Cx} {w0:World} {n:Nat} {w' : World} (r:c9 c w0 n) (h:Below c.w.heap.size c.w w'):c9 { c with w:=w' } w0 n:=by
 have he:=Evo.grow r h;refine ⟨r.below.trans (h.mono r.zT),r.others (fun b _ hb=>h.block b hb),r.lr,?_,r.lt,r.ge,r.inj⟩;intro id b hb;exact cU.evo he rfl (fun hp=>h.block _ (r.jX hb hp)) (r.blk id b hb)
theorem Rel.grow {c:Cx} {w0:World} {n:Nat} {gs:Fr} {st:St} {a:Act} {w' : World} (r:Rel c w0 n gs st a) (h:Below c.w.heap.size c.w w'):Rel { c with w:=w' } w0 n gs st a:=
 r.evo (Evo.grow r.hrel h) r.heap (r.hrel.grow h) rfl rfl rfl (aax _)
def Cx.push (c:Cx) (next cap:Nat) (b:Blk) (o:Obj):Cx:=
 { c with heap:=(next,b)::c.heap,pl:=fun i=>if i=next then ⟨c.w.heap.size,cap⟩ else c.pl i,w:=c.w.alloc o }
theorem qe {c:Cx} {w0:World} {next cap:Nat} {b:Blk} {o:Obj} (r:c9 c w0 next) {id:Nat} {b' : Blk} (h:look c.heap id=some b') :
  look (c.push next cap b o).heap id=some b'/\(c.push next cap b o).pl id=c.pl id:=by
 have:=r.lt id b' h;simp only [Cx.push,ai];constructor
 ·rw [if_neg (by omega)];exact h
 ·rw [if_neg (by omega)]
theorem Evo.push {c:Cx} {w0:World} {next cap:Nat} {b:Blk} {o:Obj} (r:c9 c w0 next):Evo c (c.push next cap b o):=by
 refine ⟨?_,?_⟩
 ·intro b' o' hi
  have hb:b' < c.w.heap.size:=r.E0 hi;refine ⟨?_,cell_of_block (Below.heap_alloc _ _ _ hb)⟩
  rcases hi with hi|⟨h1,h2,h3⟩
  ·exact .inl hi
  ·refine .inr ⟨h1,?_,?_⟩
   ·show b' < (c.w.heap.push o).size
    rw [Array.size_push];omega
   ·intro id blk hl hph hg
    simp only [Cx.push,ai] at hl hg hph;by_cases hid:next=id
    ·subst hid;simp at hg;omega
    ·rw [if_neg hid] at hl
     rw [if_neg (by omega)] at hg hph;exact h3 id blk hl hph hg
 ·intro id b' hb
  obtain ⟨h1,h2⟩:=qe (cap:=cap) (b:=b) (o:=o) r hb;refine ⟨b',h1,?_⟩;rw [h2]
  cases b'<;>simp [dm]
theorem c9.push {c:Cx} {w0:World} {next cap:Nat} {b:Blk} {o:Obj} (r:c9 c w0 next) (hb:cU (c.push next cap b o) next b):c9 (c.push next cap b o) w0 (next+1):=by
 have he:Evo c (c.push next cap b o):=Evo.push r;refine ⟨r.below.alloc r.zT o,r.others (fun b _ hb=>Below.heap_alloc _ _ _ hb),r.lr,?_,?_,?_,?_⟩
 ·intro id b' hl
  by_cases hid:next=id
  ·subst hid
   simp only [Cx.push,ai,if_true] at hl;injection hl with hl
   subst hl;exact hb
  ·simp only [Cx.push,ai,if_neg hid] at hl
   obtain ⟨h1,h2⟩:=qe (cap:=cap) (b:=b) (o:=o) r hl;exact cU.evo he h2 (fun hp=>Below.heap_alloc _ _ _ (r.jX hl hp)) (r.blk id b' hl)
 ·intro id b' hl
  by_cases hid:next=id
  ·omega
  ·simp only [Cx.push,ai,if_neg hid] at hl
   have:=r.lt id b' hl;omega
 ·intro id b' hl hph
  by_cases hid:next=id
  ·subst hid
   simp only [Cx.push,if_true];exact r.su (aax _)
  ·simp only [Cx.push,ai,if_neg hid] at hl
   obtain ⟨h1,h2⟩:=qe (cap:=cap) (b:=b) (o:=o) r hl;rw [h2] at hph ⊢;exact r.ge id b' hl hph
 ·intro id id' b1 b2 h1 h2 p1 p2 hg
  by_cases hid:next=id
  ·by_cases Hg : next=id'
   ·omega
   ·exfalso
    simp only [Cx.push,ai,if_neg Hg] at h2;obtain ⟨_,e2⟩:=qe (cap:=cap) (b:=b) (o:=o) r h2;rw [e2] at p2;have:=r.jX h2 p2;simp [Cx.push,hid.symm,show id'≠next from fun h=>Hg h.symm] at hg;omega
  ·simp only [Cx.push,ai,if_neg hid] at h1
   by_cases Hg : next=id'
   ·exfalso
    obtain ⟨_,e1⟩:=qe (cap:=cap) (b:=b) (o:=o) r h1;rw [e1] at p1;have:=r.jX h1 p1;simp [Cx.push,Hg.symm,show id≠next from fun h=>hid h.symm] at hg;omega
   ·simp only [Cx.push,ai,if_neg Hg] at h2
    simp [Cx.push,show id≠next from fun h=>hid h.symm,show id'≠next from fun h=>Hg h.symm] at hg p1 p2;exact r.inj id id' b1 b2 h1 h2 p1 p2 hg
theorem Rel.push {c:Cx} {w0:World} {n:Nat} {gs:Fr} {st:St} {a:Act} (r:Rel c w0 n gs st a) {b:Blk} {o:Obj} {cap:Nat} (hb:cU (c.push st.next cap b o) st.next b) :
  Rel (c.push st.next cap b o) w0 n gs (eQ st b) a:=
 r.evo (Evo.push r.hrel) (by simp [Cx.push,eQ,r.heap]) (r.hrel.push hb) rfl rfl rfl (Nat.le_succ _)
theorem Evo.setVar {c:Cx} {w0:World} {next:Nat} (r:c9 c w0 next) {id:Nat} {cs cs' : List V} (hl:look c.heap id=some (.var cs)) {w' : World}
  (hw:∀b,b≠(c.pl id).gb->w'.heap[b]? = c.w.heap[b]?) (hsz:w'.heap.size=c.w.heap.size):Evo c { c with heap:=(id,.var cs')::c.heap,w:=w' }:=by
 refine ⟨?_,?_⟩
 ·intro b o hi
  have hne:b≠(c.pl id).gb:=by
   rintro rfl
   rcases hi with hi|⟨h1,h2,h3⟩
   ·exact r.ge id _ hl trivial hi.1
   ·obtain ⟨k,xs,h,_⟩:=h3 id _ hl trivial rfl;cases h
  refine ⟨?_,cell_of_block (hw b hne)⟩
  rcases hi with hi|⟨h1,h2,h3⟩
  ·exact .inl hi
  ·refine .inr ⟨h1,by simpa [hsz] using h2,?_⟩
   intro id' blk hl' hph hg;simp only [ai] at hl';by_cases hid:id=id'
   ·subst hid;exact (hne hg.symm).elim
   ·rw [if_neg hid] at hl';exact h3 id' blk hl' hph hg
 ·intro id' b hb
  simp only [ai];by_cases hid:id=id'
  ·subst hid
   rw [hl] at hb;injection hb with hb;subst hb
   exact ⟨_,if_pos rfl,rfl⟩
  ·rw [if_neg hid]
   exact ⟨b,hb,by cases b<;>simp [dm]⟩
theorem c9.setVar {c:Cx} {w0:World} {next:Nat} (r:c9 c w0 next) {id:Nat} {cs cs' : List V} (hl:look c.heap id=some (.var cs)) {w' : World}
  (hbel:Below c.B c.w w')
  (hw:∀b,b≠(c.pl id).gb->w'.heap[b]? = c.w.heap[b]?) (hsz:w'.heap.size=c.w.heap.size)
  (hb:cU { c with heap:=(id,.var cs')::c.heap,w:=w' } id (.var cs')):c9 { c with heap:=(id,.var cs')::c.heap,w:=w' } w0 next:=by
 have he:=Evo.setVar (cs':=cs') r hl hw hsz;refine ⟨r.below.trans hbel,r.others (fun b hb _=>hw b (fun e=>r.ge id _ hl trivial (.inr (e ▸ hb)))),r.lr,?_,?_,?_,?_⟩
 ·intro id' b hl'
  simp only [ai] at hl';by_cases hid:id=id'
  ·subst hid;simp at hl';subst hl';exact hb
  ·rw [if_neg hid] at hl'
   refine cU.evo he rfl (fun hph=>hw _ ?_) (r.blk id' b hl');intro hg;exact hid (r.inj id' id b _ hl' hl hph trivial hg).symm
 ·intro id' b hl'
  simp only [ai] at hl';by_cases hid:id=id'
  ·subst hid;exact r.lt id _ hl
  ·rw [if_neg hid] at hl';exact r.lt id' b hl'
 ·intro id' b hl' hph
  simp only [ai] at hl';by_cases hid:id=id'
  ·subst hid;exact r.ge id _ hl trivial
  ·rw [if_neg hid] at hl';exact r.ge id' b hl' hph
 ·intro id1 id2 b1 b2 h1 h2 p1 p2 hg
  simp only [ai] at h1 h2;have e1:∃b,look c.heap id1=some b/\Ph (c.pl id1) b:=by
   by_cases hid:id=id1
   ·subst hid;exact ⟨_,hl,trivial⟩
   ·rw [if_neg hid] at h1;exact ⟨_,h1,p1⟩
  have e2:∃b,look c.heap id2=some b/\Ph (c.pl id2) b:=by
   by_cases hid:id=id2
   ·subst hid;exact ⟨_,hl,trivial⟩
   ·rw [if_neg hid] at h2;exact ⟨_,h2,p2⟩
  obtain ⟨x1,e1,q1⟩:=e1;obtain ⟨x2,e2,q2⟩:=e2;exact r.inj id1 id2 x1 x2 e1 e2 q1 q2 hg
def Cx.aN (c:Cx) (id:Nat) (b:Blk) (p:Pl) (w:World):Cx:={ c with heap:=(id,b)::c.heap,pl:=fun i=>if i=id then p else c.pl i,w:=w }
theorem bF {c:Cx} {id:Nat} {b:Blk} {p:Pl} {w:World} {id' : Nat} (h:id≠id'):look (c.aN id b p w).heap id' = look c.heap id'/\(c.aN id b p w).pl id' = c.pl id':=by
 simp only [Cx.aN,ai];exact ⟨if_neg h,if_neg (fun e=>h e.symm)⟩
theorem ae {c:Cx} {id:Nat} {b:Blk} {p:Pl} {w:World}:look (c.aN id b p w).heap id=some b/\(c.aN id b p w).pl id=p:=by
 constructor
 ·simp only [Cx.aN,ai,if_true]
 ·simp only [Cx.aN,if_true]
theorem Evo.aN {c:Cx} {w0:World} {next:Nat} (r:c9 c w0 next) {id:Nat} {b b' : Blk} {p' : Pl} (hl:look c.heap id=some b) {w' : World}
  (hother:∀k,k<c.w.heap.size->(Ph (c.pl id) b->k≠(c.pl id).gb)->w'.heap[k]? = c.w.heap[k]?) (hsz:c.w.heap.size<=w'.heap.size)
  (hp:(p'.gb=(c.pl id).gb/\(Ph p' b'->Ph (c.pl id) b))\/c.w.heap.size<=p'.gb)
  (zc:Ph (c.pl id) b->∀o,Imm c (c.pl id).gb o->w'.cell? ⟨(c.pl id).gb,o,none⟩=c.w.cell? ⟨(c.pl id).gb,o,none⟩/\(p'.gb=(c.pl id).gb->∃k xs,b' = .arr k xs/\o<xs.length * k))
  (hbe:dm (c.pl id) p' b b'):Evo c (c.aN id b' p' w'):=by
 refine ⟨?_,?_⟩
 ·intro k o hi
  have hk:k<c.w.heap.size:=r.E0 hi;by_cases hkg:Ph (c.pl id) b/\k=(c.pl id).gb
  ·obtain ⟨hph,hkg⟩:=hkg
   subst hkg;obtain ⟨h1,h2⟩:=zc hph o hi;refine ⟨?_,h1⟩
   rcases hi with hi|⟨g1,g2,g3⟩
   ·exact .inl hi
   ·refine .inr ⟨g1,abl g2 hsz,?_⟩
    intro id' blk hl' lu hg;by_cases hid:id=id'
    ·subst hid
     rw [ae.1] at hl';injection hl' with hl'
     subst hl';rw [ae.2] at hg;exact h2 hg
    ·rw [(bF hid).1] at hl'
     rw [(bF hid).2] at hg lu;exact g3 id' blk hl' lu hg
  ·refine ⟨?_,cell_of_block (hother k hk (fun hph hkk=>hkg ⟨hph,hkk⟩))⟩
   rcases hi with hi|⟨g1,g2,g3⟩
   ·exact .inl hi
   ·refine .inr ⟨g1,abl g2 hsz,?_⟩
    intro id' blk hl' lu hg;by_cases hid:id=id'
    ·subst hid
     rw [ae.1] at hl';injection hl' with hl'
     subst hl';rw [ae.2] at hg lu
     rcases hp with ⟨hp,hp2⟩|hp
     ·exact (hkg ⟨hp2 lu,by rw [<- hg,hp]⟩).elim
     ·omega
    ·rw [(bF hid).1] at hl'
     rw [(bF hid).2] at hg lu;exact g3 id' blk hl' lu hg
 ·intro id' x hx
  by_cases hid:id=id'
  ·subst hid
   rw [hl] at hx;injection hx with hx;subst hx
   exact ⟨b',ae.1,by rw [ae.2];exact hbe⟩
  ·refine ⟨x,by rw [(bF hid).1];exact hx,?_⟩
   rw [(bF hid).2]
   cases x<;>simp [dm]
theorem c9.aN {c:Cx} {w0:World} {next:Nat} (r:c9 c w0 next) {id:Nat} {b b' : Blk} {p' : Pl} (hl:look c.heap id=some b) {w' : World} (he:Evo c (c.aN id b' p' w'))
  (hother:∀k,k<c.w.heap.size->(Ph (c.pl id) b->k≠(c.pl id).gb)->w'.heap[k]? = c.w.heap[k]?) (hbel:Below c.B c.w w')
  (hp:(p'.gb=(c.pl id).gb/\(Ph p' b'->Ph (c.pl id) b))\/c.w.heap.size<=p'.gb) (hb:cU (c.aN id b' p' w') id b'):c9 (c.aN id b' p' w') w0 next:=by
 refine ⟨r.below.trans hbel,r.others (fun k hk hlt=>hother k hlt (fun hph e=>r.ge id _ hl hph (.inr (e ▸ hk)))),r.lr,?_,?_,?_,?_⟩
 ·intro id' x hx
  by_cases hid:id=id'
  ·subst hid
   rw [ae.1] at hx;injection hx with hx;subst hx;exact hb
  ·rw [(bF hid).1] at hx
   refine cU.evo he (bF hid).2 (fun hph=>hother _ (r.jX hx hph) ?_) (r.blk id' x hx);intro Y0 hg;exact hid (r.inj id' id x _ hx hl hph Y0 hg).symm
 ·intro id' x hx
  by_cases hid:id=id'
  ·subst hid;exact r.lt id _ hl
  ·rw [(bF hid).1] at hx;exact r.lt id' x hx
 ·intro id' x hx hph
  by_cases hid:id=id'
  ·subst hid
   rw [ae.1] at hx;injection hx with hx;subst hx
   rw [ae.2] at hph ⊢;show ¬c.Old p'.gb
   rcases hp with ⟨hp,hp2⟩|hp
   ·rw [hp];exact r.ge id _ hl (hp2 hph)
   ·exact r.su hp
  ·rw [(bF hid).1] at hx
   rw [(bF hid).2] at hph ⊢;exact r.ge id' x hx hph
 ·intro id1 id2 b1 b2 h1 h2 q1 q2 hg
  by_cases h1' : id=id1
  ·by_cases h2' : id=id2
   ·omega
   ·exfalso
    subst h1';rw [ae.1] at h1;injection h1 with h1;subst h1
    rw [(bF h2').1] at h2;rw [ae.2,(bF h2').2] at hg;rw [ae.2] at q1;rw [(bF h2').2] at q2;have:=r.jX h2 q2
    rcases hp with ⟨hp,hp2⟩|hp
    ·exact h2' (r.inj id id2 _ _ hl h2 (hp2 q1) q2 (by rw [<- hp,hg]))
    ·omega
  ·rw [(bF h1').1] at h1
   by_cases h2' : id=id2
   ·exfalso
    subst h2';rw [ae.1] at h2;injection h2 with h2;subst h2
    rw [ae.2,(bF h1').2] at hg;rw [ae.2] at q2;rw [(bF h1').2] at q1;have:=r.jX h1 q1
    rcases hp with ⟨hp,hp2⟩|hp
    ·exact h1' (r.inj id id1 _ _ hl h1 (hp2 q2) q1 (by rw [<- hp,hg]))
    ·omega
   ·rw [(bF h2').1] at h2
    rw [(bF h1').2,(bF h2').2] at hg;rw [(bF h1').2] at q1;rw [(bF h2').2] at q2;exact r.inj id1 id2 b1 b2 h1 h2 q1 q2 hg
def Cx.zero (c:Cx) (next:Nat) (b:Blk):Cx:={ c with heap:=(next,b)::c.heap,pl:=fun i=>if i=next then ⟨0,0⟩ else c.pl i }
theorem DZ {c:Cx} {w0:World} {next:Nat} {b:Blk} (r:c9 c w0 next) {id:Nat} {b' : Blk} (h:look c.heap id=some b'):look (c.zero next b).heap id=some b'/\(c.zero next b).pl id=c.pl id:=by
 have:=r.lt id b' h;simp only [Cx.zero,ai];constructor
 ·rw [if_neg (by omega)];exact h
 ·rw [if_neg (by omega)]
theorem Evo.zero {c:Cx} {w0:World} {next:Nat} {b:Blk} (r:c9 c w0 next) (hb:¬Ph ⟨0,0⟩ b):Evo c (c.zero next b):=by
 refine ⟨?_,?_⟩
 ·intro b' o' hi
  refine ⟨?_,rfl⟩
  rcases hi with hi|⟨h1,h2,h3⟩
  ·exact .inl hi
  ·refine .inr ⟨h1,h2,?_⟩
   intro id blk hl hph hg;simp only [Cx.zero,ai] at hl hg hph;by_cases hid:next=id
   ·subst hid
    simp at hl hph;subst hl;exact (hb hph).elim
   ·rw [if_neg hid] at hl
    rw [if_neg (by omega)] at hg hph;exact h3 id blk hl hph hg
 ·intro id b' hb
  obtain ⟨h1,h2⟩:=DZ (b:=b) r hb;refine ⟨b',h1,?_⟩;rw [h2]
  cases b'<;>simp [dm]
theorem c9.zero {c:Cx} {w0:World} {next:Nat} {b:Blk} (r:c9 c w0 next) (hb:¬Ph ⟨0,0⟩ b) (hr:cU (c.zero next b) next b):c9 (c.zero next b) w0 (next+1):=by
 have he:Evo c (c.zero next b):=Evo.zero r hb;have key:∀id x,look (c.zero next b).heap id=some x->(id=next/\x=b)\/(look c.heap id=some x/\(c.zero next b).pl id=c.pl id):=by
  intro id x hl;by_cases hid:next=id
  ·subst hid
   simp only [Cx.zero,ai,if_true] at hl;injection hl with hl
   exact .inl ⟨rfl,hl.symm⟩
  ·simp only [Cx.zero,ai,if_neg hid] at hl
   exact .inr ⟨hl,(DZ (b:=b) r hl).2⟩
 have nph:¬Ph ((c.zero next b).pl next) b:=by simpa [Cx.zero] using hb
 refine ⟨r.below,r.other,r.lr,?_,?_,?_,?_⟩
 ·intro id x hl
  rcases key id x hl with ⟨rfl,rfl⟩|⟨h1,h2⟩
  ·exact hr
  ·exact cU.evo he h2 (fun _=>rfl) (r.blk id x h1)
 ·intro id x hl
  rcases key id x hl with ⟨rfl,rfl⟩|⟨h1,h2⟩
  ·omega
  ·have:=r.lt id x h1;omega
 ·intro id x hl hph
  rcases key id x hl with ⟨rfl,rfl⟩|⟨h1,h2⟩
  ·exact (nph hph).elim
  ·rw [h2] at hph ⊢;exact r.ge id x h1 hph
 ·intro id id' x x' hl hl' p1 p2 hg
  rcases key id x hl with ⟨rfl,rfl⟩|⟨h1,h2⟩
  ·exact (nph p1).elim
  ·rcases key id' x' hl' with ⟨rfl,rfl⟩|⟨h1',h2'⟩
   ·exact (nph p2).elim
   ·rw [h2] at p1 hg
    rw [h2'] at p2 hg;exact r.inj id id' x x' h1 h1' p1 p2 hg
theorem Rel.zero {c:Cx} {w0:World} {n:Nat} {gs:Fr} {st:St} {a:Act} (r:Rel c w0 n gs st a) {b:Blk} (hb:¬Ph ⟨0,0⟩ b) (hr:cU (c.zero st.next b) st.next b):Rel (c.zero st.next b) w0 n gs (eQ st b) a:=
 r.evo (Evo.zero r.hrel hb) (by simp [Cx.zero,eQ,r.heap]) (r.hrel.zero hb hr) rfl rfl rfl (Nat.le_succ _)
end Uw
namespace Uw
open Go Go.RowKit
variable [Glob]
theorem addr_add (b o i:Nat):(⟨b,o,none⟩:Addr).add i=⟨b,o+i,none⟩:=by
 unfold Addr.add;by_cases h:i=0
 ·subst h;simp
 ·simp [h]
section
variable {P : Program} {w : World}
theorem run_bind {α β:Type} (s:Sem α) (f:α->Sem β):(s.bind f).run P w=match s.run P w with | .ok x w'=>(f x).run P w' | .halt h w'=>.halt h w':=by
 induction s generalizing w with
 | pure a=>rfl
 | load m a k ih=>
  simp only [Sem.bind,Sem.run]
  split
  ·exact ih _
  ·split
   ·exact ih _
   ·rfl
 | store m a v k ih=>
  cases v<;>simp only [Sem.bind,Sem.run]<;>(try rfl)<;>(split;(split;rfl;exact ih))<;>(split;exact ih;rfl)
 | new o k ih=>simp only [Sem.bind,Sem.run];exact ih _
 | shape r k ih=>simp only [Sem.bind,Sem.run];exact ih _
 | freeze a n k ih=>simp only [Sem.bind,Sem.run];exact ih
 | frozen a k ih=>simp only [Sem.bind,Sem.run];exact ih _
 | getObj r k ih=>
  simp only [Sem.bind,Sem.run]
  split
  ·rfl
  ·exact ih _
  ·rfl
 | setObj r o k ih=>
  simp only [Sem.bind,Sem.run]
  split
  ·rfl
  ·exact ih
  ·rfl
 | choose q k ih=>
  simp only [Sem.bind,Sem.run]
  split
  ·exact ih _
  ·exact ih _
 | sys c k ih=>simp only [Sem.bind,Sem.run];exact ih _
 | program k ih=>simp only [Sem.bind,Sem.run];exact ih _
 | mark m k ih=>simp only [Sem.bind,Sem.run];exact ih
 | halt h=>rfl
theorem run_bind_ok {α β:Type} {s:Sem α} {f:α->Sem β} {x:α} {w' : World} (h:s.run P w = .ok x w'):(s >>= f).run P w=(f x).run P w':=by
 show (s.bind f).run P w=_;rw [run_bind,h]
theorem run_load {a:Addr} {v:Value} (h:w.cell? a=some v):(load a).run P w = .ok v w:=by
 simp [load,Sem.run,h]
theorem run_loadCellsFrom {b o:Nat}:∀(n i:Nat) (acc:Array Value) (vs:List Value),vs.length=n->
  (∀j v,vs[j]? = some v->w.cell? ⟨b,o+i+j,none⟩=some v)->(loadCellsFrom ⟨b,o,none⟩ i n acc).run P w = .ok (acc++vs.toArray) w:=by
 intro n
 induction n with
 | zero=>intro i acc vs hl _;have:vs=[]:=aaM hl;subst this;simp [loadCellsFrom,pure]
 | succ n ih=>
  intro i acc vs hl hc
  cases vs with
  | nil=>simp at hl
  | cons v vs=>
   simp only [loadCellsFrom];rw [run_bind_ok (run_load (v:=v) (by rw [addr_add];simpa using hc 0 v rfl))];rw [ih (i+1) (acc.push v) vs (by simpa using hl) (by
    intro j u hu;have:=hc (j+1) u (by simpa using hu);rw [show o+(i+1)+j=o+i+(j+1) by omega];exact this)]
   simp
theorem run_loadCells {b o n:Nat} {vs:List Value} (hl:vs.length=n) (hc:∀j v,vs[j]? = some v->w.cell? ⟨b,o+j,none⟩=some v):(loadCells ⟨b,o,none⟩ n).run P w = .ok vs.toArray w:=by
 unfold loadCells;rw [run_loadCellsFrom n 0 #[] vs hl (by simpa using hc)];simp
theorem vS {t:TypeId} {i:TypeInfo} (h:P.info? t=some i):(typeInfo t).run P w = .ok i w:=by
 simp [typeInfo,program,Bind.bind,Sem.bind,Sem.run,h,pure]
theorem cD {t:TypeId} {d:TypeDesc} (h:P.underlying t=some d):(underlying t).run P w = .ok d w:=by
 simp [underlying,program,Bind.bind,Sem.bind,Sem.run,h,pure]
theorem ij {t:TypeId} {n:Nat} (h:sizeT P t=some n):(Go.sizeOf t).run P w = .ok n w:=by
 simp only [sizeT,aaC] at h;obtain ⟨i,hi,rfl⟩:=h;unfold Go.sizeOf;rw [run_bind_ok (vS hi)];rfl
theorem xN {t:TypeId} {g:Bool} (h:kK P t=some g):(isAgg t).run P w = .ok g w:=by
 unfold kK at h;unfold isAgg
 split at h
 ·rename_i fs hu;simp at h;subst h;rw [run_bind_ok (cD hu)];rfl
 ·rename_i n e hu;simp at h;subst h;rw [run_bind_ok (cD hu)];rfl
 ·rename_i d h1 h2 hu
  simp at h;subst h;rw [run_bind_ok (cD hu)]
  cases d<;>first|rfl|exact (h1 _ rfl).elim|exact (h2 _ _ rfl).elim
 ·simp at h
theorem vT {t:TypeId} {zs:List Dat} (h:mf P t=some zs):∃v,(zeroValue t).run P w = .ok v w/\jU v.cells.toList=some zs:=by
 unfold mf at h
 split at h
 ·rename_i i hi
  split at h
  ·rename_i v hv
   refine ⟨v,?_,h⟩;unfold zeroValue;rw [run_bind_ok (vS hi),hv];rfl
  ·simp at h
 ·simp at h
def pack (g:Bool) (vs:List Value):Option Value:=
 match g,vs with
 | true,vs=>some (.agg vs.toArray)
 | false,[v]=>some v
 | false,_=>none
theorem oP {t:TypeId} {g:Bool} {n b o:Nat} {vs:List Value} {u:Value} (hg:kK P t=some g) (hn:sizeT P t=some n) (hl:vs.length=n) (hp:pack g vs=some u)
  (hc:∀j v,vs[j]? = some v->w.cell? ⟨b,o+j,none⟩=some v):(loadVar t ⟨b,o,none⟩).run P w = .ok u w:=by
 unfold loadVar;rw [run_bind_ok (xN hg)]
 cases g with
 | true=>
  simp only [if_true];rw [run_bind_ok (ij hn),run_bind_ok (run_loadCells hl hc)];simp [pack] at hp;subst hp;rfl
 | false=>
  simp only [aaX,if_false]
  match vs,hp with
  | [v],hp=>simp [pack] at hp;subst hp;exact run_load (by simpa using hc 0 v rfl)
theorem run_store {a:Addr} {v u:Value} (hv:one v=true) (h:w.cell? a=some u) (hf:w.frozen? a=false):(store a v).run P w = .ok () (w.setCell a v):=by
 cases v<;>first|(simp [one] at hv;done)|simp [store,Sem.run,h,hf]
theorem heap_setCell {w:World} {b o:Nat} {v:Value} {vs:Array Value} {e:TypeId} (h:w.heap[b]? = some (.cells vs e (0,0))) :
  (w.setCell ⟨b,o,none⟩ v).heap[b]? = some (.cells (vs.setIfInBounds o v) e (0,0)):=by
 simp [World.setCell,Array.getElem?_modify,h]
theorem zd {b o:Nat} {vs:Array Value} {e:TypeId} (h:w.heap[b]? = some (.cells vs e (0,0))):w.frozen? ⟨b,o,none⟩=false:=by
 simp [World.frozen?,h]
theorem ct {b o:Nat} {vs:Array Value} {e:TypeId} (h:w.heap[b]? = some (.cells vs e (0,0))):w.cell? ⟨b,o,none⟩=vs[o]?:=by
 simp [World.cell?,h]
def iZ (vs:Array Value) (o:Nat):List Value->Array Value
 | []=>vs
 | v::r=>iZ (vs.setIfInBounds o v) (o+1) r
theorem qO:∀(us:List Value) (vs:Array Value) (o:Nat),(iZ vs o us).size=vs.size
 | [],vs,o=>rfl
 | u::us,vs,o=>by simp [iZ,qO us]
structure Laid (w w' : World) (b:Nat) (vs:Array Value) (e:TypeId):Prop where
 here:w'.heap[b]? = some (.cells vs e (0,0))
 other:∀b',b'≠b->w'.heap[b']? = w.heap[b']?
 size:w'.heap.size=w.heap.size
 os:w'.os=w.os
 tape:w'.tape=w.tape
 output:w'.output=w.output
theorem nB (b o:Nat) {e:TypeId}:∀(us:List Value) (i:Nat) (vs:Array Value) (w:World),w.heap[b]? = some (.cells vs e (0,0))->o+i+us.length<=vs.size->
  (∀u∈us,one u=true)->∃w',(storeCells ⟨b,o,none⟩ us i).run P w = .ok () w'/\Laid w w' b (iZ vs (o+i) us) e
 | [],i,vs,w,h,_,_=>⟨w,by unfold storeCells;rfl,⟨h,fun _ _=>rfl,rfl,rfl,rfl,rfl⟩⟩
 | u::us,i,vs,w,h,hl,ho=>by
  simp only [aaA] at hl;have hsome:∃x,w.cell? ⟨b,o+i,none⟩=some x:=by
   rw [ct h,Array.getElem?_eq_getElem (by omega)];exact ⟨_,rfl⟩
  obtain ⟨x,hx⟩:=hsome;have h1:=heap_setCell (o:=o+i) (v:=u) h;obtain ⟨w',hw',L⟩:=nB b o us (i+1) (vs.setIfInBounds (o+i) u) (w.setCell ⟨b,o+i,none⟩ u) h1 (by simp;omega) (fun x hx=>ho x (by simp [hx]));refine ⟨w',?_,?_⟩
  ·unfold storeCells
   rw [addr_add,run_bind_ok (run_store (ho u (by simp)) hx (zd h))];exact hw'
  ·refine ⟨by rw [iZ];exact L.here,?_,L.size.trans (by simp [World.setCell]),L.os.trans rfl,L.tape.trans rfl,L.output.trans rfl⟩
   intro b' hb';rw [L.other b' hb',Below.heap_setCell _ _ _ _ hb']
theorem vU {t:TypeId} {n b o:Nat} {e:TypeId} {vs:Array Value} {u:Value} (hn:sizeT P t=some n) (hu:u.cells.size=n) (ho:∀x∈u.cells.toList,one x=true)
  (h:w.heap[b]? = some (.cells vs e (0,0))) (hl:o+n<=vs.size):∃w',(storeVar t ⟨b,o,none⟩ u).run P w = .ok () w'/\Laid w w' b (iZ vs o u.cells.toList) e:=by
 obtain ⟨w',h1,h2⟩:=nB (P:=P) b o u.cells.toList 0 vs w h (by simp [hu];omega) ho;refine ⟨w',?_,h2⟩;unfold storeVar;rw [run_bind_ok (ij hn)];simp only [hu,ne_eq,not_true_eq_false,if_false];exact h1
end
end Uw
namespace Uw
open Go Go.RowKit
variable [Glob]
theorem zu {c:Cx} {x:V} {v:Value} (h:aB c x v) (hx:vP x=true):one v=true:=by
 cases x with
 | agg cs=>simp [vP] at hx
 | d x=>
  cases x with
  | agg ds=>simp [vP] at hx
  | tuple ds=>simp [vP] at hx
  | slice k xs z=>rcases h with ⟨⟨_,rfl,_⟩,_⟩|⟨b,o,cap,rfl,h2⟩<;>rfl
  | iface t d=>obtain ⟨u,rfl,h2⟩:=h;rfl
  | _=>simp only [aB,aI] at h;subst h;rfl
 | ptr id off=>obtain ⟨h1,rfl⟩:=h;rfl
 | ro cs off=>obtain ⟨b,o,rfl,h2⟩:=h;rfl
 | nu id ver i cc=>
  simp only [aB] at h;unfold jV at h
  split at h
  ·obtain ⟨_,⟨x,rfl⟩,_⟩:=h;rfl
  ·exact h.elim
 | ref id ver off len=>
  simp only [aB] at h;unfold kL at h
  split at h
  ·rcases h with ⟨_,⟨rfl,_⟩|⟨b,o,cap,rfl,_⟩⟩<;>rfl
  ·obtain ⟨_,⟨x,l,cp,rfl⟩,_⟩:=h;rfl
  ·exact h.elim
 | func f fs cap=>obtain ⟨us,vs,rfl,h2⟩:=h;rfl
 | tuple ds=>simp [vP] at hx
 | hnd id=>
  simp only [aB] at h;unfold fU at h
  split at h
  ·subst h;rfl
  ·subst h;rfl
  ·exact h.elim
 | row id len=>obtain ⟨h1,rfl,h3⟩:=h;rfl
 | undef=>simp [vP] at hx
theorem ay.get {c:Cx}:∀{xs:List V} {vs:List Value},ay c xs vs->∀(i:Nat) (x:V),xs[i]? = some x->∃v,vs[i]? = some v/\aB c x v:=by
 intro xs
 induction xs with
 | nil=>intro vs _ i x h;simp at h
 | cons y ys ih=>
  intro vs hh i x h;obtain ⟨v,vs',rfl,h2,h3⟩:=hh
  cases i with
  | zero=>simp at h;subst h;exact ⟨v,rfl,h2⟩
  | succ i=>simp at h;simpa using ih h3 i x h
theorem ay.get' {c:Cx}:∀{xs:List V} {vs:List Value},ay c xs vs->∀(i:Nat) (v:Value),vs[i]? = some v->∃x,xs[i]? = some x/\aB c x v:=by
 intro xs
 induction xs with
 | nil=>intro vs hh i x h;simp [ay] at hh;subst hh;simp at h
 | cons y ys ih=>
  intro vs hh i u h;obtain ⟨v,vs',rfl,h2,h3⟩:=hh
  cases i with
  | zero=>simp at h;subst h;exact ⟨y,rfl,h2⟩
  | succ i=>simp at h;simpa using ih h3 i u h
theorem ay.drop {c:Cx}:∀{xs:List V} {vs:List Value},ay c xs vs->∀n,ay c (xs.drop n) (vs.drop n):=by
 intro xs
 induction xs with
 | nil=>intro vs hh n;simp [ay] at hh;subst hh;simp [ay]
 | cons y ys ih=>
  intro vs hh n;obtain ⟨v,vs',rfl,h2,h3⟩:=hh
  cases n with
  | zero=>exact ⟨v,vs',rfl,h2,h3⟩
  | succ n=>simpa using ih h3 n
theorem ay.take {c:Cx}:∀{xs:List V} {vs:List Value},ay c xs vs->∀n,ay c (xs.take n) (vs.take n):=by
 intro xs
 induction xs with
 | nil=>intro vs hh n;simp [ay] at hh;subst hh;simp [ay]
 | cons y ys ih=>
  intro vs hh n;obtain ⟨v,vs',rfl,h2,h3⟩:=hh
  cases n with
  | zero=>simp [ay]
  | succ n=>exact ⟨v,vs'.take n,rfl,h2,ih h3 n⟩
theorem ay.set {c:Cx}:∀{xs:List V} {vs:List Value},ay c xs vs->∀(i:Nat) {x:V} {v:Value},aB c x v->ay c (xs.set i x) (vs.set i v):=by
 intro xs
 induction xs with
 | nil=>intro vs hh i x v _;simp [ay] at hh;subst hh;simp [ay]
 | cons y ys ih=>
  intro vs hh i x v h;obtain ⟨u,vs',rfl,h2,h3⟩:=hh
  cases i with
  | zero=>exact ⟨v,vs',rfl,h,h3⟩
  | succ i=>exact ⟨u,vs'.set i v,rfl,h2,ih h3 i h⟩
theorem ay.setAt {c:Cx}:∀{ys:List V} {us:List Value},ay c ys us->∀{xs:List V} {vs:Array Value} (i:Nat),ay c xs vs.toList->ay c (setAt xs i ys) (iZ vs i us).toList:=by
 intro ys
 induction ys with
 | nil=>intro us h xs vs i hx;simp [ay] at h;subst h;simpa [Uw.setAt,iZ] using hx
 | cons y ys ih=>
  intro us h xs vs i hx;obtain ⟨u,us',rfl,h2,h3⟩:=h;rw [Uw.setAt,iZ];refine ih h3 (i+1) ?_;rw [adp];exact ay.set hx i h2
theorem sw {c:Cx} {g:Bool} {xs:List V} {vs:List Value} {x:V} (h:ay c xs vs) (hx:si g xs=some x):∃u,pack g vs=some u/\aB c x u:=by
 cases g with
 | true=>simp [si] at hx;subst hx;exact ⟨_,rfl,vs,rfl,h⟩
 | false=>
  match xs,hx,h with
  | [y],hx,h=>
   simp [si] at hx;subst hx;obtain ⟨v,vs',rfl,h2,h3⟩:=h;simp [ay] at h3;subst h3;exact ⟨v,rfl,h2⟩
theorem LZ {g:Bool} {xs:List V} {x:V} (h:si false xs=some x):xs.length=1:=by
 match xs,h with
 | [y],_=>rfl
theorem dR.get {w:World} {J:Nat->Nat->Prop} {b:Nat}:∀{ds:List Dat} {o:Nat},dR w J b o ds->∀i d,ds[i]? = some d->∃v,w.cell? ⟨b,o+i,none⟩=some v/\J b (o+i)/\aI w J d v
 | [],o,_,i,d,h=>by simp at h
 | x::xs,o,⟨⟨v,h1,h2,_,h3⟩,h4⟩,i,d,h=>by
  cases i with
  | zero=>simp at h;subst h;exact ⟨v,h1,h2,h3⟩
  | succ i=>
   simp at h;have:=dR.get h4 i d h
   rwa [show o+1+i=o+(i+1) by omega] at this
theorem dR.vals {w:World} {J:Nat->Nat->Prop} {b:Nat}:∀{ds:List Dat} {o:Nat},dR w J b o ds->∃vs:List Value,bp w J ds vs/\∀j v,vs[j]? = some v->w.cell? ⟨b,o+j,none⟩=some v
 | [],o,_=>⟨[],rfl,by simp⟩
 | x::xs,o,⟨⟨v,h1,h2,_,h3⟩,h4⟩=>by
  obtain ⟨vs,g1,g2⟩:=dR.vals h4;refine ⟨v::vs,⟨v,vs,rfl,h3,g1⟩,?_⟩;intro j u hu
  cases j with
  | zero=>simp at hu;subst hu;exact h1
  | succ j=>
   simp at hu;have:=g2 j u hu
   rwa [show o+1+j=o+(j+1) by omega] at this
theorem dR.drop {w:World} {J:Nat->Nat->Prop} {b:Nat}:∀{ds:List Dat} {o:Nat},dR w J b o ds->∀n,dR w J b (o+n) (ds.drop n)
 | ds,o,h,0=>by simpa using h
 | [],o,h,n+1=>by simp [dR]
 | x::xs,o,⟨_,h4⟩,n+1=>by
  have:=dR.drop h4 n;rw [show o+1+n=o+(n+1) by omega] at this;simpa using this
theorem dR.take {w:World} {J:Nat->Nat->Prop} {b:Nat}:∀{ds:List Dat} {o:Nat},dR w J b o ds->∀n,dR w J b o (ds.take n)
 | ds,o,h,0=>by simp [dR]
 | [],o,h,n+1=>by simp [dR]
 | x::xs,o,⟨h1,h4⟩,n+1=>⟨h1,dR.take h4 n⟩
theorem cS.get {w:World} {J:Nat->Nat->Prop} {b k:Nat}:∀{xs:List (List Dat)} {o:Nat},cS w J b k o xs->∀i x,xs[i]? = some x->x.length=k/\dR w J b (o+i * k) x
 | [],o,_,i,d,h=>by simp at h
 | y::ys,o,⟨h1,h2,h3⟩,i,d,h=>by
  cases i with
  | zero=>simp at h;subst h;exact ⟨h1,by simpa using h2⟩
  | succ i=>
   simp at h;have:=cS.get h3 i d h
   rwa [show o+k+i * k=o+(i+1) * k by rw [abb];omega] at this
theorem aB.jS {c:Cx} {d:Dat} {v:Value} (h:aI c.w (Imm c) d v):aB c (V.jS d) v:=by
 cases d with
 | agg ds=>obtain ⟨vs,rfl,h2⟩:=h;exact ⟨vs,rfl,ay.ofL h2⟩
 | tuple ds=>
  obtain ⟨vs,rfl,h2⟩:=h;refine ⟨vs,rfl,?_⟩
  induction ds generalizing vs with
  | nil=>simpa [bp,ay] using h2
  | cons x xs ih=>
   obtain ⟨v,vs',rfl,g1,g2⟩:=h2;refine ⟨v,vs',rfl,?_,ih vs' g2⟩
   cases x with
   | agg ds=>obtain ⟨us,rfl,h2⟩:=g1;exact ⟨us,rfl,ay.ofL h2⟩
   | _=>exact g1
 | _=>exact h
theorem wrap_in {k:IntKind} {n:Int} (h:inR k n=true):k.wrap n=n:=by
 cases k<;>simp [inR] at h<;>simp [IntKind.wrap,IntKind.bits,IntKind.signed]<;>omega
theorem E1 {P:Program} {Q:aG->St->Prop} {k:IntKind} {n:Int} {q:Int->Tree} (h:WT P Q (fit k n q)):WT P Q (q (k.wrap n)):=by
 unfold fit at h;simp only [WT] at h
 cases hb:inR k n with
 | true=>have:=h.1 hb;rwa [wrap_in hb]
 | false=>exact h.2 hb
theorem tG {c:Cx} {id ver off len k:Nat} {xs:List (List Dat)} {gv:Value} (hl:look c.heap id=some (.arr k xs)) (h:aB c (.ref id ver off len) gv):aI c.w (Imm c) (.slice k ((xs.drop off).take len) false) gv:=by
 simp only [aB,hl] at h;obtain ⟨h1,h⟩:=h;have hlen:((xs.drop off).take len).length=len:=by simp;omega
 rcases h with ⟨h2,h3,_⟩|⟨b,o,cap,h2,h3,h4,_⟩
 ·exact .inl ⟨⟨_,h2,by simp⟩,aaM (by omega)⟩
 ·exact .inr ⟨b,o,cap,by rw [hlen];exact h2,by rw [hlen];exact h3,by simp,h4⟩
theorem L0 {c:Cx}:∀{vs:List V} {ds:List Dat} {us:List Value},V.dat.go c.heap vs=some ds->ay c vs us->bp c.w (Imm c) ds us:=by
 intro vs
 induction vs with
 | nil=>intro ds us h r;simp [V.dat.go] at h;subst h;simpa [bp,ay] using r
 | cons v vs ih=>
  intro ds us h r;obtain ⟨u,us',rfl,r1,r2⟩:=r;unfold V.dat.go at h
  split at h
  ·simp at *
  ·rename_i x rr heq
   simp only [abE] at heq;obtain ⟨rfl,rfl⟩:=heq
   split at h
   ·rename_i l hl
    simp at h;subst h;exact ⟨u,us',rfl,r1,ih hl r2⟩
   ·simp at h
  ·rename_i id ver off len rr heq
   simp only [abE] at heq;obtain ⟨rfl,rfl⟩:=heq
   split at h
   ·rename_i k xs l hl1 hl2
    simp at h;subst h;exact ⟨u,us',rfl,tG hl1 r1,ih hl2 r2⟩
   ·simp at h
  ·rename_i f rr heq
   simp only [abE] at heq;obtain ⟨rfl,rfl⟩:=heq
   split at h
   ·rename_i l hl
    simp at h;subst h;obtain ⟨fs',vs',e1,e3,e2⟩:=r1;simp [ay] at e2 e3;subst e2 e3;exact ⟨u,us',rfl,e1,ih hl r2⟩
   ·simp at h
  ·simp at h
theorem zw {c:Cx} {v:V} {x:Dat} {gv:Value} (h:v.dat c.heap=some x) (r:aB c v gv):aI c.w (Imm c) x gv:=by
 cases v with
 | d y=>simp [V.dat] at h;subst h;exact r
 | agg cs=>
  simp only [V.dat,aaC] at h;obtain ⟨ds,h1,rfl⟩:=h;obtain ⟨us,rfl,h2⟩:=r;exact ⟨us,rfl,L0 h1 h2⟩
 | ref id ver off len=>
  simp only [V.dat] at h
  split at h
  ·rename_i k xs hl
   simp at h;subst h;exact tG hl r
  ·simp at h
 | func f fs cap=>
  cases fs with
  | cons a b=>simp [V.dat] at h
  | nil=>
   cases cap with
   | nil=>
    simp [V.dat] at h;subst h;obtain ⟨fs',vs',e1,e3,e2⟩:=r;simp [ay] at e2 e3;subst e2 e3;exact e1
   | cons a b=>simp [V.dat] at h
 | _=>simp [V.dat] at h
theorem oQ {c:Cx}:∀{vs:List V} {ds:List Dat} {us:List Value},mL c.heap vs=some ds->ay c vs us->bp c.w (Imm c) ds us:=by
 intro vs
 induction vs with
 | nil=>intro ds us h r;simp [mL] at h;subst h;simpa [bp,ay] using r
 | cons v vs ih=>
  intro ds us h r;obtain ⟨u,us',rfl,r1,r2⟩:=r;unfold mL at h
  split at h
  ·rename_i x l h1 h2
   simp at h;subst h;exact ⟨u,us',rfl,zw h1 r1,ih h2 r2⟩
  ·simp at h
end Uw
namespace Uw
open Go Go.RowKit
variable [Glob]
def bL (P:Program) (Q:aG->St->Prop) (q:V->St->Tree) (c:Cx) (w0:World) (n:Nat) (gs:Fr) (st:St) (a:Act) (dst:Option Tmp) (K:Act->World->Prop):Prop:=
 ∀c' st' v gv,c'.B=c.B->c'.J0=c.J0->Rel c' w0 n gs st' a->st'.regs=st.regs->aB c' v gv->WT P Q (q v st')->K (a.put dst gv) c'.w
section
variable {P : Program} {Q : aG -> St -> Prop} {q : V -> St -> Tree} {c : Cx} {w0 : World} {n : Nat} {gs : Fr} {st : St} {a : Act} {K : Act -> World -> Prop} {Qx : Exit -> Act -> World -> Prop} {o : Oper}
theorem bf (r:Rel c w0 n gs st a) (hK:bL P Q q c w0 n gs st a o.dst K) {v:V} {gv:Value} (hv:aB c v gv) (hq:WT P Q (q v st)) (h:(execOp a.eval o).run P c.w = .ok (.value gv) c.w):o.wp P a c.w K Qx:=
 cF h (hK c st v gv rfl rfl r rfl hv hq)
theorem N7 (r:Rel c w0 n gs st a) (hK:bL P Q q c w0 n gs st a o.dst K) {x:Operand} {y:Opd} (ho:o.op = .move x\/o.op = .assign x) (hc:ao x=some y)
  (h:WT P Q (match y.ev st with|some v=>q v st|none=>.fail)):o.wp P a c.w K Qx:=by
 cases hv:y.ev st with
 | none=>rw [hv] at h;exact h.elim
 | some v=>
  rw [hv] at h;refine bf r hK (aK r hc hv) h ?_
  rcases ho with ho|ho<;>simp [execOp,ho,pure,Sem.run]
theorem RO (r:Rel c w0 n gs st a) (hK:bL P Q q c w0 n gs st a o.dst K) {x1 x2 x3:Operand} {y1 y2 y3:Opd} (ho:o.op = .pick x1 x2 x3) (h1:ao x1=some y1) (h2:ao x2=some y2) (h3:ao x3=some y3)
  {xx:aG->St->Tree} (h:WT P Q (step (.pick y1 y2 y3) st q xx)):o.wp P a c.w K Qx:=by
 simp only [step,aj,az,aA] at h
 split at h
 ·rename_i t ht
  have e1:=aK r h1 ht;simp only [aB,aI] at e1;obtain ⟨g1,g2⟩:=h;have key:∀b:Bool,t=b->o.wp P a c.w K Qx:=by
   intro b hb
   cases b with
   | true=>
    have g:=g1 hb
    cases hv:y2.ev st with
    | none=>rw [hv] at g;exact g.elim
    | some v=>
     rw [hv] at g;refine bf r hK (aK r h2 hv) g ?_;simp [execOp,ho,e1,hb,asBool,pure,Bind.bind,Sem.bind,Sem.run]
   | false=>
    have g:=g2 hb
    cases hv:y3.ev st with
    | none=>rw [hv] at g;exact g.elim
    | some v=>
     rw [hv] at g;refine bf r hK (aK r h3 hv) g ?_;simp [execOp,ho,e1,hb,asBool,pure,Bind.bind,Sem.bind,Sem.run]
  exact key t rfl
 ·exact h.elim
theorem vV (r:Rel c w0 n gs st a) {cs:List V} {vs:Array Value} {e:TypeId} (h:ay c cs vs.toList) :
  Rel (c.push st.next 0 (.var cs) (.cells vs e)) w0 n gs (eQ st (.var cs)) a:=
 r.push (by
  refine ⟨vs,e,?_,ay.evo (Evo.push r.hrel) _ _ h⟩;show (c.w.heap.push (.cells vs e))[((c.push st.next 0 (.var cs) (.cells vs e)).pl st.next).gb]? = _;simp [Cx.push])
theorem Hh (st:St) (cs:List V) (o:Obj):aB (c.push st.next 0 (.var cs) o) (.ptr st.next 0) (.pointer (some ⟨c.w.heap.size,0,none⟩)):=by
 refine ⟨⟨cs,by simp [Cx.push,ai]⟩,?_⟩;simp [Cx.push]
theorem VQ (r:Rel c w0 n gs st a) (hK:bL P Q q c w0 n gs st a o.dst K) {t:TypeId} {x:Operand} {y:Opd} (ho:o.op = .box t x) (hc:ao x=some y)
  {xx:aG->St->Tree} (h:WT P Q (step (.box y) st q xx)):o.wp P a c.w K Qx:=by
 simp only [step,aj,az,aA] at h
 split at h
 ·rename_i v hv
  have e1:=na (aK r hc hv) (yD hv);refine cF (w':=c.w.alloc (.cells (a.eval x).cells t)) ?_ (hK (c.push st.next 0 (.var v.cells) (.cells (a.eval x).cells t)) _ _ _ rfl rfl (vV r e1) rfl (Hh st _ _) h);simp [execOp,ho,Instr.box,newVar,newRow,newObj,pure,Bind.bind,Sem.bind,Sem.run]
 ·exact h.elim
theorem N8 (r:Rel c w0 n gs st a) (hK:bL P Q q c w0 n gs st a o.dst K) {t:TypeId} {zs:List Dat} (ho:o.op = .alloc t) (hz:mf P t=some zs)
  {xx:aG->St->Tree} (h:WT P Q (step (.alloc zs) st q xx)):o.wp P a c.w K Qx:=by
 simp only [step,aj,az,aA] at h;obtain ⟨v,hv,hd⟩:=vT (w:=c.w) hz;refine cF (w':=c.w.alloc (.cells v.cells t)) ?_ (hK (c.push st.next 0 (.var (zs.map V.d)) (.cells v.cells t)) _ _ _ rfl rfl (vV r (ay.ofL (gx hd _ _))) rfl (Hh st _ _) h);have:(Instr.alloc t true (.tuple #[])).run P c.w = .ok (.pointer (some ⟨c.w.heap.size,0,none⟩)) (c.w.alloc (.cells v.cells t)):=by
  unfold Instr.alloc;rw [run_bind_ok hv];simp [newVar,newRow,newObj,pure,Bind.bind,Sem.bind,Sem.run]
 simp only [execOp,ho];rw [run_bind_ok this];rfl
end
end Uw
namespace Uw
open Go Go.RowKit
variable [Glob]
theorem xO (off:Nat):∀(us:List Value) (j:Nat) (cs:Array Value),(us.zipIdx j).foldl (fun cs (p:Value×Nat)=>cs.setIfInBounds (off+p.2) p.1) cs=iZ cs (off+j) us
 | [],j,cs=>rfl
 | u::us,j,cs=>by
  rw [List.zipIdx_cons,abQ,xO off us (j+1),iZ];rfl
theorem ay.tH {c:Cx} {x:V} {v:Value} (h:aB c x v) (hx:x≠.undef):v.cells.size=x.cells.length:=by
 have:=(na h hx).length;simpa using this
section
variable {P : Program} {Q : aG -> St -> Prop} {q : V -> St -> Tree} {c : Cx} {w0 : World} {n : Nat} {gs : Fr} {st : St} {a : Act} {K : Act -> World -> Prop} {Qx : Exit -> Act -> World -> Prop} {o : Oper} {xx : aG -> St -> Tree}
theorem Hk (r:Rel c w0 n gs st a) {place:Nat->Option (Nat×Nat)}:∀(ps:List (Nat×Operand)) (qs:List (Nat×Nat×Opd)) (cs cs' : List V) (vs:Array Value),jI place ps=some qs->
  ay c cs vs.toList->eW st cs qs=some cs'->∃vs',Instr.fill place vs (ps.map fun (i,x)=>(i,a.eval x))=some vs'/\ay c cs' vs'.toList:=by
 intro ps
 induction ps with
 | nil=>
  intro qs cs cs' vs h1 h2 h3;simp [jI] at h1;subst h1;simp [eW] at h3;subst h3;exact ⟨vs,rfl,h2⟩
 | cons p ps ih=>
  intro qs cs cs' vs h1 h2 h3;obtain ⟨i,x⟩:=p;simp only [jI] at h1
  split at h1
  ·rename_i off n' o' l hp ho hl
   simp at h1;subst h1;simp only [eW] at h3
   split at h3
   ·rename_i v hv
    split at h3
    ·rename_i hb
     rw [aay] at hb;have hb1:=aaB hb.1;have hb2:=aaO hb.2;have hr:=aK r ho hv;have hcl:=ay.tH hr (yD hv);have hlen:=h2.length;obtain ⟨vs',g1,g2⟩:=ih l _ cs' (iZ vs off (a.eval x).cells.toList) hl (ay.setAt (na hr (yD hv)) off h2) h3;refine ⟨vs',?_,g2⟩;simp only [abG,Instr.fill,hp];have hsz:vs.size=cs.length:=by simpa using hlen
     rw [if_neg (by simp;omega)];have e:=xO off (a.eval x).cells.toList 0 vs;simp only [abT] at e;rw [<- ac5,Array.toList_zipIdx,e];exact g1
    ·simp at h3
   ·simp at h3
  ·simp at h1
theorem Oa (r:Rel c w0 n gs st a) (hK:bL P Q q c w0 n gs st a o.dst K) {t:TypeId} {ps:Array (Nat×Operand)} {place:Nat->Option (Nat×Nat)} {zs:List Dat} {qs:List (Nat×Nat×Opd)} (ho:o.op = .build t ps)
  (hp:Jn P t=some place) (hz:mf P t=some zs) (hq:jI place ps.toList=some qs) (h:WT P Q (step (.build zs qs) st q xx)):o.wp P a c.w K Qx:=by
 simp only [step,aj,az,aA] at h
 split at h
 ·rename_i cs hcs
  unfold mf at hz
  split at hz
  ·rename_i i hi
   split at hz
   ·rename_i z hzero
    obtain ⟨vs',g1,g2⟩:=Hk r ps.toList qs _ cs z.cells hq (ay.ofL (gx hz _ _)) hcs;have hb:P.built t (ps.map fun (i,x)=>(i,a.eval x)).toList=some vs':=by
     unfold Program.built;unfold Jn at hp;rw [hi] at hp ⊢
     split at hp
     ·rename_i e hu h2
      split at hp
      ·rename_i ie hie
       simp at hp;subst hp;simp only [h2,hzero,hie];simpa using g1
      ·simp at hp
     ·rename_i fs hu h2
      split at hp
      ·rename_i places hpl
       simp at hp;subst hp;simp only [h2,hzero,hpl];simpa using g1
      ·simp at hp
     ·simp at hp
    refine bf r hK (v:=.agg cs) (gv:=.agg vs') ⟨vs'.toList,by simp,g2⟩ h ?_;simp only [execOp,ho];rw [run_bind_ok (run_build c.w t _ vs' hb)];rfl
   ·simp at hz
  ·simp at hz
 ·exact h.elim
theorem u0 {t:TypeId} {v:Value} {b o:Nat} {u:Value} {w:World} (hv:v = .pointer (some ⟨b,o,none⟩)) (h:(loadVar t ⟨b,o,none⟩).run P w = .ok u w):(Instr.loadAt t v).run P w = .ok u w:=by
 subst hv;unfold Instr.loadAt;rw [run_bind_ok (s:=Instr.sureAddr _) (x:=⟨b,o,none⟩) (w':=w) rfl];exact h
theorem bp.drop {w:World} {J:Nat->Nat->Prop}:∀{xs:List Dat} {vs:List Value},bp w J xs vs->∀n,bp w J (xs.drop n) (vs.drop n):=by
 intro xs
 induction xs with
 | nil=>intro vs hh n;simp [bp] at hh;subst hh;simp [bp]
 | cons y ys ih=>
  intro vs hh n;obtain ⟨v,vs',rfl,h2,h3⟩:=hh
  cases n with
  | zero=>exact ⟨v,vs',rfl,h2,h3⟩
  | succ n=>simpa using ih h3 n
theorem bp.take {w:World} {J:Nat->Nat->Prop}:∀{xs:List Dat} {vs:List Value},bp w J xs vs->∀n,bp w J (xs.take n) (vs.take n):=by
 intro xs
 induction xs with
 | nil=>intro vs hh n;simp [bp] at hh;subst hh;simp [bp]
 | cons y ys ih=>
  intro vs hh n;obtain ⟨v,vs',rfl,h2,h3⟩:=hh
  cases n with
  | zero=>simp [bp]
  | succ n=>exact ⟨v,vs'.take n,rfl,h2,ih h3 n⟩
theorem u3 {α:Type} {k:Nat}:∀{xs:List (List α)} (h:∀x∈xs,x.length=k) {i:Nat} {cs:List α},xs[i]? = some cs->(xs.flatten.drop (i * k)).take k=cs
 | [],_,i,cs,hi=>by simp at hi
 | x::xs,h,i,cs,hi=>by
  have hx:=h x (by simp)
  cases i with
  | zero=>simp at hi;subst hi;simp [hx]
  | succ i=>
   simp at hi;rw [abB,show (i+1) * k=k+i * k by rw [abb];omega,<- hx,adk];have:=u3 (fun y hy=>h y (by simp [hy])) hi;rw [hx];exact this
theorem il {α:Type} {k:Nat}:∀{xs:List (List α)} (h:∀x∈xs,x.length=k),xs.flatten.length=xs.length * k
 | [],_=>by simp
 | x::xs,h=>by
  rw [abB,aaw,h x (by simp),il (fun y hy=>h y (by simp [hy])),aaA,abb];omega
theorem Ob {w:World} {J:Nat->Nat->Prop} {b:Nat} {vs:Array Value} {e:TypeId} {cap k i:Nat} {xs:List (List Dat)} {cs:List Dat} (h1:w.heap[b]? = some (.cells vs e (0,0))) (h2:vs.size=cap * k) (h3:xs.length<=cap) (h4:∀x∈xs,x.length=k)
  (h5:bp w J xs.flatten (vs.toList.take (xs.length * k))) (hi:xs[i]? = some cs):∃us:List Value,bp w J cs us/\∀j v,us[j]? = some v->w.cell? ⟨b,i * k+j,none⟩=some v:=by
 have h6:=(h5.drop (i * k)).take k;rw [u3 h4 hi] at h6;refine ⟨_,h6,?_⟩;intro j v hv;rw [ct h1];rw [aaH] at hv
 split at hv
 ·rw [abq,aaH] at hv
  split at hv
  ·simpa using hv
  ·simp at hv
 ·simp at hv
theorem KH (r:Rel c w0 n gs st a) (hK:bL P Q q c w0 n gs st a o.dst K) {t:TypeId} {x:Operand} {y:Opd} {g:Bool} {m:Nat} (ho:o.op = .load t x) (hg:kK P t=some g) (hm:sizeT P t=some m) (hc:ao x=some y)
  (h:WT P Q (step (.load g m y) st q xx)):o.wp P a c.w K Qx:=by
 simp only [step,aj,az,aA] at h
 split at h
 ·rename_i id off hv
  split at h
  ·rename_i cs hl
   split at h
   ·rename_i hle
    have hle:=aaO hle
    split at h
    ·rename_i v hmk
     have e1:=aK r hc hv;obtain ⟨⟨cs0,e2⟩,e3⟩:=e1;have hl' : look c.heap id=some (.var cs):=by rw [r.heap];exact hl
     obtain ⟨vs,e,h1,h2⟩:=r.hrel.blk id _ hl';have hlen:=h2.length;have h3:=(h2.drop off).take m;obtain ⟨u,hu,hru⟩:=sw h3 hmk;refine bf r hK hru h ?_;simp only [execOp,ho];rw [run_bind_ok (u0 e3 (oP hg hm ?_ hu ?_))]
     ·rfl
     ·simp at hlen ⊢;omega
     ·intro j x hx
      rw [ct h1];rw [aaH] at hx
      split at hx
      ·simpa using hx
      ·simp at hx
    ·exact h.elim
   ·exact h.elim
  ·exact h.elim
 ·rename_i cs off hv
  split at h
  ·rename_i hle
   have hle:=aaO hle
   split at h
   ·rename_i v hmk
    have e1:=aK r hc hv;obtain ⟨b,o',e2,e3⟩:=e1;obtain ⟨vs,g1,g2⟩:=dR.vals ((e3.drop off).take m);obtain ⟨u,hu,hru⟩:=sw (ay.ofL g1) hmk;refine bf r hK hru h ?_;simp only [execOp,ho];rw [run_bind_ok (u0 e2 (oP hg hm ?_ hu g2))]
    ·rfl
    ·rw [g1.length];simp;omega
   ·exact h.elim
  ·exact h.elim
 ·rename_i id ver i cc hv
  split at h
  ·rename_i k dU xs hl
   simp only [WT] at h
   cases hbv:Nat.beq ver dU with
   | false=>exact (h.2 hbv).elim
   | true=>
    have hg:=h.1 hbv;clear h;have hb:=aaB hbv;subst hb;obtain ⟨cs,hcs,h⟩:=hg
    split at h
    ·rename_i hle
     have hle:=aaO hle
     split at h
     ·rename_i v hmk
      have e1:=aK r hc hv;have hl' : look c.heap id=some (.mt k ver xs):=by rw [r.heap];exact hl
      simp only [aB,hl'] at e1;obtain ⟨_,_,e2⟩:=e1;obtain ⟨e3,e4⟩:=e2 rfl;obtain ⟨b3,b4,bb⟩:=r.hrel.blk id _ hl';obtain ⟨vs,e,b1,b2,b5,b6⟩:=bb (by omega);obtain ⟨us,g1,g2⟩:=Ob b1 b2 b3 b4 b5 hcs;have g3:bp c.w (Imm c) ((cs.drop cc).take m) ((us.drop cc).take m):=(g1.drop cc).take m;obtain ⟨u,hu,hru⟩:=sw (ay.ofL g3) hmk;refine bf r hK hru h ?_;simp only [execOp,ho];rw [run_bind_ok (u0 e4 (oP hg hm ?_ hu ?_))]
      ·rfl
      ·rw [g3.length];simp;omega
      ·intro j x hx
       rw [aaH] at hx
       split at hx
       ·rw [abq] at hx
        have:=g2 (cc+j) x hx;rw [show i * k+cc+j=i * k+(cc+j) by omega];exact this
       ·simp at hx
     ·exact h.elim
    ·exact h.elim
  ·exact h.elim
 ·exact h.elim
theorem Laid.below {w w' : World} {b:Nat} {vs:Array Value} {e:TypeId} (h:Laid w w' b vs e) {B:Nat} (hB:B<=b):Below B w w':=
 ⟨h.os,h.tape,h.output,by rw [h.size];exact aax _,fun k hk=>h.other k (by omega)⟩
theorem qP {α:Type}:∀(ys xs:List α) (i:Nat),(setAt xs i ys).length=xs.length
 | [],xs,i=>rfl
 | y::ys,xs,i=>by rw [setAt,qP ys];simp
theorem xP {α:Type} {x:α}:∀{ys xs:List α} {i:Nat},x∈setAt xs i ys->x∈xs\/x∈ys
 | [],xs,i,h=>.inl h
 | y::ys,xs,i,h=>by
  rw [setAt] at h
  rcases xP h with h|h
  ·rcases acj h with h|h
   ·exact .inl h
   ·exact .inr (by simp [h])
  ·exact .inr (by simp [h])
theorem jA:∀(us:List Value) (vs:Array Value) (o:Nat),(iZ vs o us).toList=setAt vs.toList o us
 | [],vs,o=>rfl
 | u::us,vs,o=>by rw [iZ,setAt,jA us,adp]
theorem jJ {α:Type}:∀(ys xs:List α) (i j:Nat),(setAt xs i ys)[j]? = if i<=j/\j<i+ys.length/\j<xs.length then ys[j - i]? else xs[j]?
 | [],xs,i,j=>by rw [setAt,if_neg (by simp;omega)]
 | y::ys,xs,i,j=>by
  rw [setAt,jJ ys];simp only [acr,ab1,aaA];by_cases h1:i=j
  ·subst h1
   by_cases h2:i<xs.length
   ·simp [h2];omega
   ·simp [h2]
  ·by_cases h2:i+1<=j/\j<i+1+ys.length/\j<xs.length
   ·rw [if_pos h2,if_pos (by omega),show j - i=(j - (i+1))+1 by omega];simp
   ·rw [if_neg h2,if_neg h1,if_neg (by omega)]
theorem bp.setAt {w:World} {J:Nat->Nat->Prop} {xs ys:List Dat} {vs us:List Value} (h:bp w J xs vs) (h2:bp w J ys us) (i:Nat):bp w J (setAt xs i ys) (Uw.setAt vs i us):=by
 have set1:∀{xs:List Dat} {vs:List Value},bp w J xs vs->∀(i:Nat) {x:Dat} {v:Value},aI w J x v->bp w J (xs.set i x) (vs.set i v):=by
  intro xs
  induction xs with
  | nil=>intro vs hh i x v _;simp [bp] at hh;subst hh;simp [bp]
  | cons y ys ih=>
   intro vs hh i x v h;obtain ⟨u,vs',rfl,h2,h3⟩:=hh
   cases i with
   | zero=>exact ⟨v,vs',rfl,h,h3⟩
   | succ i=>exact ⟨u,vs'.set i v,rfl,h2,ih h3 i h⟩
 induction ys generalizing xs vs us i with
 | nil=>simp [bp] at h2;subst h2;simpa [Uw.setAt] using h
 | cons y ys ih=>
  obtain ⟨u,us',rfl,g1,g2⟩:=h2;rw [Uw.setAt,Uw.setAt];exact ih (set1 h i g1) g2 (i+1)
theorem yE {α:Type} {k:Nat}:∀{xs:List (List α)} (h:∀x∈xs,x.length=k) {i cc:Nat} {cs ds:List α},xs[i]? = some cs->cc+ds.length<=k->(xs.set i (setAt cs cc ds)).flatten=setAt xs.flatten (i * k+cc) ds:=by
 intro xs h i cc cs ds hi hle;have hsl:(setAt cs cc ds).length=cs.length:=qP _ _ _;have hcs:cs.length=k:=h cs (aaR hi);apply ab3;intro j;rw [jJ]
 induction xs generalizing i j with
 | nil=>simp at hi
 | cons x xs ih=>
  have hx:=h x (by simp);have hxs:∀y∈xs,y.length=k:=fun y hy=>h y (by simp [hy])
  cases i with
  | zero=>
   simp at hi;subst hi;simp only [acs,abB,adu,aaF];by_cases hj:j<k
   ·rw [aaY (by omega),jJ]
    by_cases hc:cc<=j/\j<cc+ds.length
    ·rw [if_pos ⟨hc.1,hc.2,by omega⟩,if_pos ⟨hc.1,hc.2,by simp;omega⟩]
    ·rw [if_neg (by omega),if_neg (by omega),aaY (by omega)]
   ·rw [aa4 (by omega),if_neg (by omega),aa4 (by omega),hsl]
  | succ i=>
   simp at hi;simp only [ab7,abB];have e:(i+1) * k=k+i * k:=by rw [abb];omega
   by_cases hj:j<k
   ·rw [aaY (by omega),if_neg (by omega),aaY (by omega)]
   ·rw [aa4 (by omega),ih hxs hi (j - x.length)]
    simp only [aaw];by_cases hc:i * k+cc<=j - x.length/\j - x.length<i * k+cc+ds.length/\j - x.length<xs.flatten.length
    ·rw [if_pos hc,if_pos (by omega)]
     congr 1
     omega
    ·rw [if_neg hc,if_neg (by omega),aa4 (by omega)]
theorem zU {α:Type} (xs ys:List α) (i n:Nat) (h:i+ys.length<=n):(setAt xs i ys).take n=setAt (xs.take n) i ys:=by
 apply ab3;intro j;rw [aaH,jJ,jJ,aaH];simp only [aa5];by_cases hj:j<n
 ·rw [if_pos hj,if_pos hj]
  by_cases hc:i<=j/\j<i+ys.length/\j<xs.length
  ·rw [if_pos hc,if_pos (by omega)]
  ·rw [if_neg hc,if_neg (by omega)]
 ·rw [if_neg hj,if_neg (by omega),if_neg hj]
theorem VR {w:World} {J:Nat->Nat->Prop} {vs:Array Value} {cap k i cc:Nat} {xs:List (List Dat)} {cs ds:List Dat} {us:List Value} (h2:vs.size=cap * k) (h3:xs.length<=cap) (h4:∀x∈xs,x.length=k)
  (h5:bp w J xs.flatten (vs.toList.take (xs.length * k))) (hi:xs[i]? = some cs) (h6:bp w J ds us) (hle:cc+ds.length<=k) :
  bp w J (xs.set i (setAt cs cc ds)).flatten ((iZ vs (i * k+cc) us).toList.take ((xs.set i (setAt cs cc ds)).length * k)):=by
 have hilt:i<xs.length:=by
  by_cases hh:i<xs.length
  ·exact hh
  ·rw [aaJ (by omega)] at hi;cases hi
 have hik:(i+1) * k<=xs.length * k:=abe _ (by omega);have hik' : i * k+k=(i+1) * k:=by rw [abb];omega
 rw [yE h4 hi hle,jA,acr,zU _ _ _ _ (by rw [h6.length];omega)];exact bp.setAt h5 h6 _
theorem Hl (r:Rel c w0 n gs st a) (hK:bL P Q q c w0 n gs st a o.dst K) {t:TypeId} {x1 x2:Operand} {y1 y2:Opd} {m:Nat} (ho:o.op = .store t x1 x2) (hm:sizeT P t=some m) (hc1:ao x1=some y1) (hc2:ao x2=some y2)
  (h:WT P Q (step (.store m y1 y2) st q xx)):o.wp P a c.w K Qx:=by
 simp only [step,aj,az,aA] at h
 split at h
 ·rename_i id off v hv1 hv2
  split at h
  ·rename_i cs hl
   split at h
   ·rename_i hb
    rw [aay,aay] at hb;have hb1:=aaB hb.1.1;have hb2:=aaO hb.1.2;have hb3:=hb.2;obtain ⟨⟨cs0,_⟩,e3⟩:=aK r hc1 hv1;have e4:=aK r hc2 hv2;have e5:=na e4 (yD hv2);have hl' : look c.heap id=some (.var cs):=by rw [r.heap];exact hl
    obtain ⟨vs,e,h1,h2⟩:=r.hrel.blk id _ hl';have hlen:=h2.length;have hcl:=ay.tH e4 (yD hv2);have hone:∀u∈(a.eval x2).cells.toList,one u=true:=by
     intro u hu;obtain ⟨i,hi⟩:=acC hu;obtain ⟨z,hz,hzr⟩:=e5.get' i u hi;exact zu hzr (aaS.1 hb3 z (aaR hz))
    obtain ⟨w',hw',L⟩:=vU (P:=P) (w:=c.w) hm (by omega) hone h1 (o:=off) (by simp at hlen;omega);have hev:=Evo.setVar (cs':=setAt cs off v.cells) r.hrel hl' L.other L.size;have hH:c9 { c with heap:=(id,.var (setAt cs off v.cells))::c.heap,w:=w' } w0 st.next:=by
     refine r.hrel.setVar hl' (L.below (r.hrel.geB hl' trivial)) L.other L.size ?_;exact ⟨_,e,L.here,ay.evo hev _ _ (ay.setAt e5 off h2)⟩
    refine zS (w':=w') ?_ (hK { c with heap:=(id,.var (setAt cs off v.cells))::c.heap,w:=w' } { st with heap:=(id,.var (setAt cs off v.cells))::st.heap } .undef _ rfl rfl (r.evo hev (by simp [r.heap]) hH rfl rfl rfl (aax _)) rfl (by simp [aB]) h);simp only [execOp,ho];have:(Instr.storeAt t (a.eval x1) (a.eval x2)).run P c.w = .ok () w':=by
     rw [e3];unfold Instr.storeAt;rw [run_bind_ok (s:=Instr.sureAddr _) (x:=⟨(c.pl id).gb,off,none⟩) (w':=c.w) rfl];exact hw'
    rw [run_bind_ok this];rfl
   ·exact h.elim
  ·exact h.elim
 ·rename_i id ver i cc v hv1 hv2
  split at h
  ·rename_i k dU xs hl
   split at h
   ·rename_i ds hds
    simp only [WT] at h;have hbv:Nat.beq ver dU = true:=by
     cases hbv:Nat.beq ver dU with
     | false=>exact (h.2 hbv).elim
     | true=>rfl
    have hg:=h.1 hbv;clear h;have hb:=aaB hbv;subst hb;obtain ⟨cs,hcs,h⟩:=hg
    split at h
    ·rename_i hb
     rw [aay,aay] at hb;have hb1:=aaB hb.1.1;have hb2:=aaO hb.1.2;have hb3:=hb.2;have hl' : look c.heap id=some (.mt k ver xs):=by rw [r.heap];exact hl
     have e3:=aK r hc1 hv1;simp only [aB,hl'] at e3;obtain ⟨_,_,e3⟩:=e3;obtain ⟨e3i,e3⟩:=e3 rfl;have e4:=aK r hc2 hv2;have e5:=na e4 (yD hv2);rw [<- r.heap] at hds;have e6:=oQ hds e5;obtain ⟨b3,b4,bb⟩:=r.hrel.blk id _ hl';have hcap:0<(c.pl id).cap:=by omega
     obtain ⟨vs,e,b1,b2,b5,b6⟩:=bb hcap;have hcl:=ay.tH e4 (yD hv2);have hdl:=e6.length;have Y1 : (a.eval x2).cells.size=m:=by simp at hdl;omega
     have hone:∀u∈(a.eval x2).cells.toList,one u=true:=by
      intro u hu;obtain ⟨i,hi⟩:=acC hu;obtain ⟨z,hz,hzr⟩:=e5.get' i u hi;exact zu hzr (aaS.1 hb3 z (aaR hz))
     have Y2:cs.length=k:=b4 cs (aaR hcs);have hik:(i+1) * k<=(c.pl id).cap * k:=abe _ (by omega);have hik' : i * k+k=(i+1) * k:=by rw [abb];omega
     obtain ⟨w',hw',L⟩:=vU (P:=P) (w:=c.w) hm Y1 hone b1 (o:=i * k+cc) (by omega);have hgb:=r.hrel.geB hl' hcap;have hpl:c.pl=(c.aN id (.mt k ver (xs.set i (setAt cs cc ds))) (c.pl id) w').pl:=by
      funext z;simp only [Cx.aN];split
      ·rename_i hz;rw [hz]
      ·rfl
     have hev:Evo c (c.aN id (.mt k ver (xs.set i (setAt cs cc ds))) (c.pl id) w'):=by
      refine Evo.aN r.hrel hl' (fun k' _ hk'=>L.other k' (hk' hcap)) (by rw [L.size];exact aax _) (.inl ⟨rfl,fun _=>hcap⟩) ?_ ⟨rfl,aax _,fun _=>⟨rfl,by simp⟩⟩;intro _ o' hi;exfalso
      rcases hi with hi|⟨_,_,g3⟩
      ·exact r.hrel.ge id _ hl' hcap hi.1
      ·obtain ⟨_,_,hh,_⟩:=g3 id _ hl' hcap rfl;cases hh
     have Y3:(setAt cs cc ds).length=k:=by rw [qP];exact Y2
     have hH:c9 (c.aN id (.mt k ver (xs.set i (setAt cs cc ds))) (c.pl id) w') w0 st.next:=by
      refine r.hrel.aN hl' hev (fun k' _ hk'=>L.other k' (hk' hcap)) (L.below hgb) (.inl ⟨rfl,fun _=>hcap⟩) ?_;refine ⟨by rw [ae.2];simpa using b3,?_,fun _=>⟨iZ vs (i * k+cc) (a.eval x2).cells.toList,e,?_,?_,?_,?_⟩⟩;rotate_left
      ·rw [ae.2];exact L.here
      ·rw [ae.2,qO];exact b2
      rotate_left 2
      ·intro x hx
       rcases acj hx with hx|hx
       ·exact b4 x hx
       ·rw [hx];exact Y3
      ·refine bp.keep hev.keeps _ _ ?_
       exact VR b2 b3 b4 b5 hcs e6 (by omega)
      ·intro u hu
       rw [jA,acr] at hu;have ZX:(i+1) * k<=xs.length * k:=abe _ (by omega);rw [zU _ _ _ _ (by simp at hdl ⊢;omega)] at hu
       rcases xP hu with hu|hu
       ·exact b6 u hu
       ·exact hone u hu
     have hst:(c.aN id (.mt k ver (xs.set i (setAt cs cc ds))) (c.pl id) w').heap=(id,.mt k ver (xs.set i (setAt cs cc ds)))::st.heap:=by
      simp [Cx.aN,r.heap]
     refine zS (w':=w') ?_ (hK (c.aN id (.mt k ver (xs.set i (setAt cs cc ds))) (c.pl id) w') { st with heap:=(id,.mt k ver (xs.set i (setAt cs cc ds)))::st.heap } .undef _ rfl rfl (r.evo hev hst hH rfl rfl rfl (aax _)) rfl (by simp [aB]) h);simp only [execOp,ho];have:(Instr.storeAt t (a.eval x1) (a.eval x2)).run P c.w = .ok () w':=by
      rw [e3];unfold Instr.storeAt;rw [run_bind_ok (s:=Instr.sureAddr _) (x:=⟨(c.pl id).gb,i * k+cc,none⟩) (w':=c.w) rfl];exact hw'
     rw [run_bind_ok this];rfl
    ·exact h.elim
   ·exact h.elim
  ·exact h.elim
 ·exact h.elim
end
end Uw
namespace Uw
open Go Go.RowKit
variable [Glob]
section
variable {P : Program} {Q : aG -> St -> Prop} {q : V -> St -> Tree} {c : Cx} {w0 : World} {n : Nat} {gs : Fr} {st : St} {a : Act} {K : Act -> World -> Prop} {Qx : Exit -> Act -> World -> Prop} {o : Oper} {xx : aG -> St -> Tree}
theorem sx {s:TypeId} {fs:Array Field} {f m b o' : Nat} {fd:Field} {v:Value} {w:World} (hu:P.underlying s=some (.struct fs)) (hf:fs[f]? = some fd) (hm:sizeT P fd.type=some (m+1)) (hv:v = .pointer (some ⟨b,o',none⟩)) :
  (Instr.fieldAt s v f).run P w = .ok (.pointer (some ⟨b,o' + fd.offset,none⟩)) w:=by
 subst hv;unfold Instr.fieldAt;rw [run_bind_ok (cD hu)];simp only [hf];rw [run_bind_ok (s:=Instr.sureAddr _) (x:=⟨b,o',none⟩) (w':=w) rfl];have:(fieldPlace ⟨b,o',none⟩ fd).run P w = .ok ⟨b,o' + fd.offset,none⟩ w:=by
  unfold fieldPlace;rw [run_bind_ok (ij hm)];simp only [Nat.add_one_ne_zero,if_false,addr_add];rfl
 rw [run_bind_ok this];rfl
theorem VT (r:Rel c w0 n gs st a) (hK:bL P Q q c w0 n gs st a o.dst K) {s:TypeId} {fs:Array Field} {f m:Nat} {fd:Field} {x:Operand} {y:Opd} (ho:o.op = .fieldAddr s x f)
  (hu:P.underlying s=some (.struct fs)) (hf:fs[f]? = some fd) (hm:sizeT P fd.type=some (m+1)) (hc:ao x=some y) (h:WT P Q (step (.fld fd.offset y) st q xx)):o.wp P a c.w K Qx:=by
 simp only [step] at h
 cases hv:y.ev st with
 | none=>rw [hv] at h;exact h.elim
 | some v=>
  rw [hv] at h;have e1:=aK r hc hv
  cases v with
  | ptr id o'=>
   obtain ⟨e2,e3⟩:=e1;refine bf r hK (v:=.ptr id (o' + fd.offset)) ⟨e2,rfl⟩ h ?_;simp only [execOp,ho];rw [run_bind_ok (sx hu hf hm e3)];rfl
  | ro cs o'=>
   obtain ⟨b,o2,e2,e3⟩:=e1;refine bf r hK (v:=.ro cs (o' + fd.offset)) (gv:=.pointer (some ⟨b,o2+o' + fd.offset,none⟩)) ⟨b,o2,by rw [abw],e3⟩ h ?_;simp only [execOp,ho];rw [run_bind_ok (sx hu hf hm e2)];rfl
  | nu id ver i cc=>
   have e2:jV c id ver i cc _ (look c.heap id):=e1;dsimp only at h
   split at h
   ·rename_i k' dU xs hl
    simp only [WT] at h;have hbv:Nat.beq ver dU = true:=by
     cases hbv:Nat.beq ver dU with
     | false=>exact (h.2 hbv).elim
     | true=>rfl
    have hq:=h.1 hbv;have hb2:=aaB hbv;subst hb2;have hl' : look c.heap id=some (.mt k' ver xs):=by rw [r.heap];exact hl
    rw [hl'] at e2;obtain ⟨_,_,e3⟩:=e2;obtain ⟨e4,e5⟩:=e3 rfl;refine bf r hK (v:=.nu id ver i (cc+fd.offset)) (gv:=.pointer (some ⟨(c.pl id).gb,i * k' + (cc+fd.offset),none⟩)) ?_ hq ?_
    ·simp only [aB,hl']
     exact ⟨aax _,⟨_,rfl⟩,fun _=>⟨e4,rfl⟩⟩
    ·simp only [execOp,ho]
     rw [run_bind_ok (sx hu hf hm e5)];rw [abw];rfl
   ·exact h.elim
  | _=>exact h.elim
theorem Oc (r:Rel c w0 n gs st a) (hK:bL P Q q c w0 n gs st a o.dst K) {x:Operand} {y:Opd} (ho:o.op = .nilCheck x) (hc:ao x=some y) (h:WT P Q (step (.cC y) st q xx)):o.wp P a c.w K Qx:=by
 simp only [step] at h
 cases hv:y.ev st with
 | none=>rw [hv] at h;exact h.elim
 | some v=>
  rw [hv] at h;have e1:=aK r hc hv;have e1':=e1
  cases v with
  | ptr id o'=>
   obtain ⟨e2,e3⟩:=e1';refine bf r hK e1 h ?_;simp [execOp,ho,e3]
  | ro cs o'=>
   obtain ⟨b,o2,e2,e3⟩:=e1';refine bf r hK e1 h ?_;simp [execOp,ho,e2]
  | _=>exact h.elim
theorem run_indexAt_slice {t e:TypeId} {k b o' len cap:Nat} {ik:IntKind} {i:Int} {v u:Value} {w:World} (hu:P.underlying t=some (.slice e)) (hk:sizeT P e=some k) (hv:v = .slice (some ⟨b,o',none⟩) len cap) (hi:u = .int ik i)
  (h1:0<=i) (h2:i<len):(Instr.indexAt t v u).run P w = .ok (.pointer (some ⟨b,o' + i.toNat * k,none⟩)) w:=by
 subst hv hi;simp [Instr.indexAt,asIntOf,cD hu,ij hk,h1,h2,addr_add,pure,Sem.run]
theorem VU (r:Rel c w0 n gs st a) (hK:bL P Q q c w0 n gs st a o.dst K) {t e:TypeId} {k:Nat} {x i:Operand} {y j:Opd} (ho:o.op = .indexAddr t x i) (hu:P.underlying t=some (.slice e)) (hk:sizeT P e=some k)
  (hc1:ao x=some y) (hc2:ao i=some j) (h:WT P Q (step (.idx k y j) st q xx)):o.wp P a c.w K Qx:=by
 simp only [step] at h
 split at h
 ·rename_i k' xs z ik m hv1 hv2
  split at h
  ·rename_i hb
   have hb:=aaB hb;subst hb;have e5:=aK r hc2 hv2;simp only [aB,aI] at e5;simp only [WT] at h;obtain ⟨g1,g2⟩:=h
   cases hb:(decide (0<=m)&&decide (m<(xs.length:Int))) with
   | false=>exact (g2 hb).elim
   | true=>
    obtain ⟨cs,hcs,hq⟩:=g1 hb;simp at hb;have e0:=aK r hc1 hv1;simp only [aB,aI] at e0
    rcases e0 with ⟨_,e0⟩|⟨b,o',cap,e1,e2,e3,e4⟩
    ·subst e0;simp at hcs
    obtain ⟨f1,f2⟩:=e4.get m.toNat cs hcs;refine bf r hK (v:=.ro cs 0) (gv:=.pointer (some ⟨b,o' + m.toNat * k,none⟩)) ⟨b,o' + m.toNat * k,rfl,f2⟩ hq ?_;simp only [execOp,ho];rw [run_bind_ok (run_indexAt_slice hu hk e1 e5 hb.1 hb.2)];rfl
  ·exact h.elim
 ·rename_i id ver off len ik m hv1 hv2
  have e1:=aK r hc1 hv1;have e5:=aK r hc2 hv2;simp only [aB,aI] at e5;simp only [aB] at e1;rw [r.heap] at e1
  split at h
  ·rename_i k' xs hl
   rw [hl] at e1
   split at h
   ·rename_i hb
    have hb:=aaB hb;subst hb;obtain ⟨f1,e1⟩:=e1;simp only [WT] at h;obtain ⟨g1,g2⟩:=h
    cases hb:(decide (0<=m)&&decide (m<(len:Int))) with
    | false=>exact (g2 hb).elim
    | true=>
     obtain ⟨cs,hcs,hq⟩:=g1 hb;simp at hb
     rcases e1 with ⟨_,e1,_⟩|⟨b,o',cap,f2,f3,f4,f5⟩
     ·omega
     have hcs' : ((xs.drop off).take len)[m.toNat]? = some cs:=by
      rw [aaH,if_pos (by omega),abq];exact hcs
     obtain ⟨p1,p2⟩:=f4.get m.toNat cs hcs';refine bf r hK (v:=.ro cs 0) (gv:=.pointer (some ⟨b,o' + m.toNat * k,none⟩)) ⟨b,o' + m.toNat * k,rfl,p2⟩ hq ?_;simp only [execOp,ho];rw [run_bind_ok (run_indexAt_slice hu hk f2 e5 hb.1 hb.2)];rfl
   ·exact h.elim
  ·rename_i k' dU xs hl
   rw [hl] at e1
   split at h
   ·rename_i hb
    have hb1:=aaB hb;subst hb1;simp only [WT] at h;have hbv:Nat.beq ver dU = true:=by
     cases hbv:Nat.beq ver dU with
     | false=>exact (h.2 hbv).elim
     | true=>rfl
    have h3:=h.1 hbv;clear h;have hb2:=aaB hbv;subst hb2;obtain ⟨f0,_,f1⟩:=e1;obtain ⟨f1,f2⟩:=f1 rfl;obtain ⟨g1,g2⟩:=h3
    cases hb:(decide (0<=m)&&decide (m<(len:Int))) with
    | false=>exact (g2 hb).elim
    | true=>
     have hq:=g1 hb;simp at hb;have hl' : look c.heap id=some (.mt k ver xs):=by rw [r.heap];exact hl
     obtain ⟨b3,b4,bb⟩:=r.hrel.blk id _ hl'
     rcases f2 with ⟨_,f2,_⟩|⟨b,o',f2,f3⟩
     ·omega
     obtain ⟨rfl,rfl⟩:=f3 (by omega);refine bf r hK (v:=.nu id ver (off+m.toNat) 0) (gv:=.pointer (some ⟨(c.pl id).gb,off * k+m.toNat * k,none⟩)) ?_ hq ?_
     ·simp only [aB,hl']
      refine ⟨aax _,⟨_,rfl⟩,fun _=>⟨by omega,?_⟩⟩;rw [abb];rfl
     ·simp only [execOp,ho]
      rw [run_bind_ok (run_indexAt_slice hu hk f2 e5 hb.1 hb.2)];rfl
   ·exact h.elim
  ·exact h.elim
 ·rename_i id len ik m hv1 hv2
  have e1:=aK r hc1 hv1;have e5:=aK r hc2 hv2;simp only [aB,aI] at e5;simp only [WT] at h;obtain ⟨g1,g2⟩:=h
  cases hb:(decide (0<=m)&&decide (m<(len:Int))) with
  | false=>exact (g2 hb).elim
  | true=>
   have hq:=g1 hb;simp at hb;obtain ⟨f1,f2,_⟩:=e1;refine bf r hK (v:=.ptr id (m.toNat * k)) (gv:=.pointer (some ⟨(c.pl id).gb,0+m.toNat * k,none⟩)) ⟨f1,by rw [aaF]⟩ hq ?_;simp only [execOp,ho];rw [run_bind_ok (run_indexAt_slice hu hk f2 e5 hb.1 hb.2)];rfl
 ·exact h.elim
theorem RP (r:Rel c w0 n gs st a) (hK:bL P Q q c w0 n gs st a o.dst K) {t:TypeId} {x i:Operand} {y j:Opd} (ho:o.op = .index t x i) (hu:P.underlying t=some .string)
  (hc1:ao x=some y) (hc2:ao i=some j) (h:WT P Q (step (.idxs y j) st q xx)):o.wp P a c.w K Qx:=by
 simp only [step] at h
 split at h
 ·rename_i s ik m hv1 hv2
  have e1:=aK r hc1 hv1;have e5:=aK r hc2 hv2;simp only [aB,aI] at e1 e5;simp only [WT] at h;obtain ⟨g1,g2⟩:=h
  cases hb:(decide (0<=m)&&decide (m<(s.length:Int))) with
  | false=>exact (g2 hb).elim
  | true=>
   obtain ⟨ch,hch,hq⟩:=g1 hb;simp at hb;refine bf r hK (v:=.d (.int .u8 ch.toNat)) (gv:=.int .u8 ch.toNat) (by simp [aB,aI]) hq ?_;simp only [execOp,ho];have:(Instr.index t (a.eval x) (a.eval i)).run P c.w = .ok (.int .u8 ch.toNat) c.w:=by
    unfold Instr.index;rw [e1,e5];rw [run_bind_ok (s:=asIntOf _) (x:=(ik,m)) (w':=c.w) rfl];simp only [];rw [run_bind_ok (cD hu)];have hx:(⟨s.toArray⟩:ByteArray)[m.toNat]? = some ch:=by
     have h0:m.toNat<s.length:=by omega
     have:(⟨s.toArray⟩:ByteArray)[m.toNat]? = some ((⟨s.toArray⟩:ByteArray)[m.toNat]'(by simpa [ByteArray.size] using h0)):=by
      rw [getElem?_pos]
     rw [this];rw [aaU h0] at hch;simpa [ByteArray.getElem_eq_getElem_data] using hch
    simp only [hb.1,if_true,hx];rfl
   rw [run_bind_ok this];rfl
 ·exact h.elim
theorem RR {t:TypeId} {ts:Array TypeId} {ty:TypeId} {v:Value} {w:World} (ht:ts[0]? = some t) {m:Nat}
  (h:(∃e x cap,P.underlying t=some (.slice e)/\v = .slice x m cap)\/(∃s,P.underlying t=some .string/\v = .string s/\s.size=m)) :
  (Builtin.len_ ts ty #[v]).run P w = .ok (.int .i64 m) w:=by
 rcases h with ⟨e,x,cap,hu,rfl⟩|⟨s,hu,rfl,rfl⟩
 ·simp [Builtin.len_,ht,cD hu,goInt]
 ·simp [Builtin.len_,ht,cD hu,goInt]
end
end Uw
namespace Uw
open Go Go.RowKit
variable [Glob]
section
variable {P : Program} {Q : aG -> St -> Prop} {q : V -> St -> Tree} {c : Cx} {w0 : World} {n : Nat} {gs : Fr} {st : St} {a : Act} {K : Act -> World -> Prop} {Qx : Exit -> Act -> World -> Prop} {o : Oper} {xx : aG -> St -> Tree}
theorem eR {cl:Call} {x:Operand} {t:TypeId} {m:Nat} {w:World} (ho:o.op = .call cl) (hb:cl.callee = .builtin .len) (hx:cl.args.toList=[x]) (ht:cl.argTypes.toList=[t])
  (h:(∃e y cap,P.underlying t=some (.slice e)/\a.eval x = .slice y m cap)\/(∃s,P.underlying t=some .string/\a.eval x = .string s/\s.size=m)) :
  (execOp a.eval o).run P w = .ok (.value (.int .i64 m)) w:=by
 obtain ⟨cal,args,ats⟩:=cl;simp only at hb hx ht;subst hb;have hx' : args = #[x]:=by rw [<- hx]
 have ht' : ats = #[t]:=by rw [<- ht]
 subst hx' ht';simp only [execOp,ho,resolve,invoke,builtin];have:=RR (P:=P) (w:=w) (ty:=o.type) (ts:=#[t]) (v:=a.eval x) rfl h;simp [this]
theorem Oe (r:Rel c w0 n gs st a) (hK:bL P Q q c w0 n gs st a o.dst K) {cl:Call} {x:Operand} {t:TypeId} {y:Opd} {b:Bool} (ho:o.op = .call cl) (hb:cl.callee = .builtin .len) (hx:cl.args.toList=[x]) (ht:cl.argTypes.toList=[t])
  (hu:if b then P.underlying t=some .string else ∃e,P.underlying t=some (.slice e)) (hc:ao x=some y) (h:WT P Q (step (.len b y) st q xx)):o.wp P a c.w K Qx:=by
 cases b with
 | false=>
  simp only [aaX,if_false] at hu;obtain ⟨e,hu⟩:=hu;simp only [step] at h
  split at h
  ·rename_i k xs z hv
   have e0:=aK r hc hv;simp only [aB,aI] at e0
   rcases e0 with ⟨⟨_,e1,_⟩,rfl⟩|⟨b,o',cap,e1,_⟩
   ·exact bf r hK (v:=.d (.int .i64 ((0:Nat):Int))) (gv:=.int .i64 ((0:Nat):Int)) (by simp [aB,aI]) h (eR (m:=0) ho hb hx ht (.inl ⟨e,_,_,hu,e1⟩))
   ·exact bf r hK (v:=.d (.int .i64 xs.length)) (by simp [aB,aI]) h (eR ho hb hx ht (.inl ⟨e,_,_,hu,e1⟩))
  ·rename_i hv
   have e1:=aK r hc hv;simp only [aB,aI] at e1;exact bf r hK (v:=.d (.int .i64 0)) (gv:=.int .i64 ((0:Nat):Int)) (by simp [aB,aI]) h (eR (m:=0) ho hb hx ht (.inl ⟨e,_,_,hu,e1⟩))
  ·rename_i id ver off len hv
   have e1:=aK r hc hv;simp only [aB] at e1;rw [r.heap] at e1
   split at h
   ·rename_i k xs hl
    rw [hl] at e1
    rcases e1 with ⟨_,⟨e2,rfl,_⟩|⟨b,o',cap,e2,_⟩⟩
    ·exact bf r hK (v:=.d (.int .i64 ((0:Nat):Int))) (gv:=.int .i64 ((0:Nat):Int)) (by simp [aB,aI]) h (eR (m:=0) ho hb hx ht (.inl ⟨e,_,_,hu,e2⟩))
    exact bf r hK (v:=.d (.int .i64 len)) (by simp [aB,aI]) h (eR ho hb hx ht (.inl ⟨e,_,_,hu,e2⟩))
   ·rename_i k dU xs hl
    rw [hl] at e1;simp only [WT] at h
    cases hbq:Nat.beq ver dU with
    | false=>exact (h.2 hbq).elim
    | true=>
     have h:=h.1 hbq;have hbq:=aaB hbq;obtain ⟨_,_,e2⟩:=e1
     rcases e2 hbq with ⟨_,⟨e3,rfl,_⟩|⟨b,o',e3,_⟩⟩
     ·exact bf r hK (v:=.d (.int .i64 ((0:Nat):Int))) (gv:=.int .i64 ((0:Nat):Int)) (by simp [aB,aI]) h (eR (m:=0) ho hb hx ht (.inl ⟨e,_,_,hu,e3⟩))
     ·exact bf r hK (v:=.d (.int .i64 len)) (by simp [aB,aI]) h (eR ho hb hx ht (.inl ⟨e,_,_,hu,e3⟩))
   ·exact h.elim
  ·rename_i id len hv
   obtain ⟨_,e1,_⟩:=aK r hc hv;exact bf r hK (v:=.d (.int .i64 len)) (by simp [aB,aI]) h (eR ho hb hx ht (.inl ⟨e,_,_,hu,e1⟩))
  ·exact h.elim
 | true=>
  simp only [if_true] at hu;simp only [step] at h
  split at h
  ·rename_i s hv
   have e1:=aK r hc hv;simp only [aB,aI] at e1;exact bf r hK (v:=.d (.int .i64 s.length)) (by simp [aB,aI]) h (eR (m:=s.length) ho hb hx ht (.inr ⟨_,hu,e1,by simp [ByteArray.size]⟩))
  ·exact h.elim
theorem qQ {op:BinOp} {t t' : TypeId} {x y:Operand} {u v:Value} {w:World} (ho:o.op = .binOp op t x y t') (hg:(eqGuard op t x y (a.eval x) (a.eval y)).run P w = .ok () w) (h:(binOp op t (a.eval x) (a.eval y)).run P w = .ok u w) :
  (execOp a.eval o).run P w = .ok (.value u) w:=by
 simp only [execOp,ho];simp [hg,h]
theorem L6 {op:BinOp} {t:TypeId} {x y:Operand} {k k' : IntKind} {i j:Int} {w:World}:(eqGuard op t x y (.int k i) (.int k' j)).run P w = .ok () w:=by
 unfold eqGuard
 cases op<;>simp
theorem L8 {op:BinOp} {t:TypeId} {x y:Operand} {i j:ByteArray} {w:World}:(eqGuard op t x y (.string i) (.string j)).run P w = .ok () w:=by
 unfold eqGuard
 cases op<;>simp
theorem zV {op:BinOp} {t:TypeId} {x y:Operand} {i j:Bool} {w:World}:(eqGuard op t x y (.bool i) (.bool j)).run P w = .ok () w:=by
 unfold eqGuard
 cases op<;>simp
theorem bytes_eq (s t:List UInt8):((⟨s.toArray⟩:ByteArray).toList == (⟨t.toArray⟩:ByteArray).toList)=decide (s=t):=by
 have:∀l:List UInt8,(⟨l.toArray⟩:ByteArray).toList=l:=by
  intro l;simp
 rw [this,this];rw [abv];simp
theorem RS {op:BinOp} {k:IntKind} {i j:Int} {Q:aG->St->Prop} {f:Dat->Tree} {t:TypeId} {w:World} (h:WT P Q (nw op k i j f)) :
  ∃d gv,(binOp op t (.int k i) (.int k j)).run P w = .ok gv w/\(∀J,aI w J d gv)/\WT P Q (f d):=by
 cases op with
 | add=>exact ⟨.int k (k.wrap (i+j)),.int k (k.wrap (i+j)),by simp [binOp,Op.intArith],fun J=>by simp [aI],E1 (q:=fun n=>f (.int k n)) h⟩
 | sub=>exact ⟨.int k (k.wrap (i - j)),.int k (k.wrap (i - j)),by simp [binOp,Op.intArith],fun J=>by simp [aI],E1 (q:=fun n=>f (.int k n)) h⟩
 | mul=>exact ⟨.int k (k.wrap (i * j)),.int k (k.wrap (i * j)),by simp [binOp,Op.intArith],fun J=>by simp [aI],E1 (q:=fun n=>f (.int k n)) h⟩
 | quo=>
  simp only [nw,WT] at h;by_cases hj:j=0
  ·exact (h.1 (by simp [hj])).elim
  ·exact ⟨.int k (k.wrap (i.tdiv j)),.int k (k.wrap (i.tdiv j)),by simp [binOp,Op.intDiv,hj],fun J=>by simp [aI],E1 (q:=fun n=>f (.int k n)) (h.2 (by simp [hj]))⟩
 | rem=>
  simp only [nw,WT] at h;by_cases hj:j=0
  ·exact (h.1 (by simp [hj])).elim
  ·exact ⟨.int k (i.tmod j),.int k (i.tmod j),by simp [binOp,Op.intDiv,hj],fun J=>by simp [aI],h.2 (by simp [hj])⟩
 | eql=>exact ⟨_,.bool (decide (i=j)),by simp [binOp,Op.intCmp];rw [abv];simp,fun J=>by simp [aI],h⟩
 | neq=>exact ⟨_,.bool (!decide (i=j)),by simp [binOp,Op.intCmp];rw [abv];simp,fun J=>by simp [aI],h⟩
 | lss=>exact ⟨_,_,by simp [binOp,Op.intCmp];rfl,fun J=>by simp [aI],h⟩
 | leq=>exact ⟨_,_,by simp [binOp,Op.intCmp];rfl,fun J=>by simp [aI],h⟩
 | gtr=>exact ⟨_,_,by simp [binOp,Op.intCmp];rfl,fun J=>by simp [aI],h⟩
 | geq=>exact ⟨_,_,by simp [binOp,Op.intCmp];rfl,fun J=>by simp [aI],h⟩
 | shl=>exact h.elim
 | shr=>exact h.elim
 | and=>exact ⟨.int k (k.wrap (BitVec.ofInt k.bits i&&&BitVec.ofInt k.bits j).toNat),.int k (k.wrap (BitVec.ofInt k.bits i&&&BitVec.ofInt k.bits j).toNat),by simp only [binOp,ne_eq,not_true_eq_false,if_false,Op.intBits];rfl,fun J=>by simp only [aI],h⟩
 | or=>exact ⟨.int k (k.wrap (BitVec.ofInt k.bits i|||BitVec.ofInt k.bits j).toNat),.int k (k.wrap (BitVec.ofInt k.bits i|||BitVec.ofInt k.bits j).toNat),by simp only [binOp,ne_eq,not_true_eq_false,if_false,Op.intBits];rfl,fun J=>by simp only [aI],h⟩
 | xor=>exact ⟨.int k (k.wrap (BitVec.ofInt k.bits i ^^^ BitVec.ofInt k.bits j).toNat),.int k (k.wrap (BitVec.ofInt k.bits i ^^^ BitVec.ofInt k.bits j).toNat),by simp only [binOp,ne_eq,not_true_eq_false,if_false,Op.intBits];rfl,fun J=>by simp only [aI],h⟩
 | andNot=>exact ⟨.int k (k.wrap (BitVec.ofInt k.bits i&&&~~~BitVec.ofInt k.bits j).toNat),.int k (k.wrap (BitVec.ofInt k.bits i&&&~~~BitVec.ofInt k.bits j).toNat),by simp only [binOp,ne_eq,not_true_eq_false,if_false,Op.intBits];rfl,fun J=>by simp only [aI],h⟩
theorem RU {op:BinOp} {s u:List UInt8} {Q:aG->St->Prop} {f:Dat->Tree} {t:TypeId} {w:World} (h:WT P Q (oG op s u f)) :
  ∃d gv,(binOp op t (.string ⟨s.toArray⟩) (.string ⟨u.toArray⟩)).run P w = .ok gv w/\(∀J,aI w J d gv)/\WT P Q (f d):=by
 have hl:∀l:List UInt8,(⟨l.toArray⟩:ByteArray).toList=l:=by intro l;simp
 cases op with
 | add=>
  simp only [oG,WT] at h;by_cases hb:s.length+u.length<4611686018427387904
  ·refine ⟨.str (s++u),.string ⟨(s++u).toArray⟩,?_,fun J=>by simp [aI],h.1 (by simp [hb])⟩
   have h1:¬(((⟨s.toArray⟩:ByteArray).size+(⟨u.toArray⟩:ByteArray).size:Nat):Int)>IntKind.i64.max:=by
    simp [ByteArray.size,IntKind.max,IntKind.signed,IntKind.bits];omega
   simp only [binOp,Op.stringOp,h1,if_false];have:(⟨s.toArray⟩:ByteArray)++(⟨u.toArray⟩:ByteArray)=⟨(s++u).toArray⟩:=by
    apply ByteArray.ext;simp
   rw [this];rfl
  ·exact (h.2 (by simp;omega)).elim
 | eql=>exact ⟨_,.bool (decide (s=u)),by simp only [binOp,Op.stringOp,bytes_eq];rfl,fun J=>by simp [aI],h⟩
 | neq=>exact ⟨_,.bool (!decide (s=u)),by simp only [binOp,Op.stringOp,bytes_eq];rfl,fun J=>by simp [aI],h⟩
 | lss=>exact ⟨_,.bool (Op.bytesLess s u),by simp only [binOp,Op.stringOp,hl];rfl,fun J=>by simp [aI],h⟩
 | leq=>exact ⟨_,.bool (Op.bytesLess s u||decide (s=u)),by simp only [binOp,Op.stringOp,bytes_eq];simp only [hl];rfl,fun J=>by simp [aI],h⟩
 | gtr=>exact ⟨_,.bool (!(Op.bytesLess s u||decide (s=u))),by simp only [binOp,Op.stringOp,bytes_eq];simp only [hl];rfl,fun J=>by simp [aI],h⟩
 | geq=>exact ⟨_,.bool (!Op.bytesLess s u),by simp only [binOp,Op.stringOp,hl];rfl,fun J=>by simp [aI],h⟩
 | _=>exact h.elim
theorem Og (r:Rel c w0 n gs st a) (hK:bL P Q q c w0 n gs st a o.dst K) {op:BinOp} {t t' : TypeId} {x1 x2:Operand} {y1 y2:Opd} (ho:o.op = .binOp op t x1 x2 t') (hc1:ao x1=some y1) (hc2:ao x2=some y2)
  (h:WT P Q (step (.bin op y1 y2) st q xx)):o.wp P a c.w K Qx:=by
 simp only [step] at h
 split at h
 ·rename_i k i k' j hv1 hv2
  have e1:=aK r hc1 hv1;have e2:=aK r hc2 hv2;simp only [aB,aI] at e1 e2
  split at h
  ·rename_i hk
   have hk:k=k':=of_decide_eq_true hk;subst hk;obtain ⟨d,gv,g1,g2,g3⟩:=RS (t:=t) (w:=c.w) h;refine bf r hK (v:=.d d) (g2 _) g3 (qQ (v:=gv) ho ?_ ?_)
   ·rw [e1,e2];exact L6
   ·rw [e1,e2];exact g1
  ·exact h.elim
 ·rename_i s u hv1 hv2
  have e1:=aK r hc1 hv1;have e2:=aK r hc2 hv2;simp only [aB,aI] at e1 e2;obtain ⟨d,gv,g1,g2,g3⟩:=RU (t:=t) (w:=c.w) h;refine bf r hK (v:=.d d) (g2 _) g3 (qQ (v:=gv) ho ?_ ?_)
  ·rw [e1,e2];exact L8
  ·rw [e1,e2];exact g1
 ·exact h.elim
theorem run_equal_bool {t:TypeId} {i j:Bool} {w:World} (hu:P.underlying t=some .bool):(Op.equal t (.bool i) (.bool j)).run P w = .ok (i == j) w:=by
 have key:∀d,(Op.equalIn (d+1) t (.bool i) (.bool j)).run P w = .ok (i == j) w:=by
  intro d;simp [Op.equalIn,cD hu]
 exact key 9999
theorem Oh (r:Rel c w0 n gs st a) (hK:bL P Q q c w0 n gs st a o.dst K) {op:BinOp} {t t' : TypeId} {x1 x2:Operand} {y1 y2:Opd} {neg:Bool} (ho:o.op = .binOp op t x1 x2 t') (hop:op=if neg then .neq else .eql) (hu:P.underlying t=some .bool)
  (hc1:ao x1=some y1) (hc2:ao x2=some y2) (h:WT P Q (step (.eqb neg y1 y2) st q xx)):o.wp P a c.w K Qx:=by
 simp only [step] at h
 split at h
 ·rename_i i j hv1 hv2
  have e1:=aK r hc1 hv1;have e2:=aK r hc2 hv2;simp only [aB,aI] at e1 e2
  cases neg with
  | true=>
   simp only [if_true] at hop;subst hop;refine bf r hK (gv:=.bool (i != j)) (by simp [aB,aI]) h (qQ (v:=.bool true) ho ?_ ?_)
   ·rw [e1,e2];exact zV
   ·rw [e1,e2]
    simp only [binOp];rw [run_bind_ok (run_equal_bool hu)];rfl
  | false=>
   simp only [aaX,if_false] at hop;subst hop;refine bf r hK (gv:=.bool (i == j)) (by simp [aB,aI]) h (qQ (v:=.bool true) ho ?_ ?_)
   ·rw [e1,e2];exact zV
   ·rw [e1,e2]
    simp only [binOp];rw [run_bind_ok (run_equal_bool hu)];rfl
 ·exact h.elim
theorem VX (r:Rel c w0 n gs st a) (hK:bL P Q q c w0 n gs st a o.dst K) {t:TypeId} {x:Operand} {y:Opd} (ho:o.op = .unOp .not t x) (hc:ao x=some y) (h:WT P Q (step (.not y) st q xx)):o.wp P a c.w K Qx:=by
 simp only [step] at h
 split at h
 ·rename_i b hv
  have e1:=aK r hc hv;simp only [aB,aI] at e1;refine bf r hK (gv:=.bool (!b)) (by simp [aB,aI]) h ?_;simp [execOp,ho,e1,Op.unary]
 ·exact h.elim
theorem VY (r:Rel c w0 n gs st a) (hK:bL P Q q c w0 n gs st a o.dst K) {x:Operand} {y:Opd} {i:Nat} (ho:o.op = .extract x i) (hc:ao x=some y) (h:WT P Q (step (.ext y i) st q xx)):o.wp P a c.w K Qx:=by
 simp only [step] at h
 split at h
 ·rename_i vs hv
  obtain ⟨us,e1,e2⟩:=aK r hc hv
  split at h
  ·rename_i v hi
   obtain ⟨u,g1,g2⟩:=e2.get i v hi;refine bf r hK g2 h ?_;simp [execOp,ho,e1,Instr.extract,g1]
  ·exact h.elim
 ·exact h.elim
end
end Uw
namespace Uw
open Go Go.RowKit
variable [Glob]
theorem bp.append {w:World} {J:Nat->Nat->Prop}:∀{xs ys:List Dat} {vs us:List Value},bp w J xs vs->bp w J ys us->bp w J (xs++ys) (vs++us)
 | [],ys,vs,us,h1,h2=>by simp [bp] at h1;subst h1;simpa using h2
 | x::xs,ys,vs,us,h1,h2=>by
  obtain ⟨v,vs',rfl,g1,g2⟩:=h1;exact ⟨v,vs'++us,rfl,g1,bp.append g2 h2⟩
theorem dR.flat {w:World} {J:Nat->Nat->Prop} {b:Nat}:∀{ds:List Dat} {o:Nat},dR w J b o ds->∃us:List Value,bp w J ds us/\(∀j v,us[j]? = some v->w.cell? ⟨b,o+j,none⟩=some v)/\∀v∈us,one v=true
 | [],o,_=>⟨[],rfl,by simp,by simp⟩
 | x::xs,o,h=>by
  obtain ⟨⟨v,h1,h2,h5,h3⟩,h4⟩:=h;obtain ⟨us,g1,g2,g3⟩:=dR.flat h4;refine ⟨v::us,⟨v,us,rfl,h3,g1⟩,?_,?_⟩
  ·intro j u hu
   cases j with
   | zero=>simp at hu;subst hu;exact h1
   | succ j=>
    simp at hu;have:=g2 j u hu
    rwa [show o+1+j=o+(j+1) by omega] at this
  ·intro u hu
   simp at hu
   rcases hu with rfl|hu
   ·exact h5
   ·exact g3 u hu
theorem cS.flat {w:World} {J:Nat->Nat->Prop} {b k:Nat}:∀{xs:List (List Dat)} {o:Nat},cS w J b k o xs->(∀x∈xs,x.length=k)/\∃us:List Value,bp w J xs.flatten us/\us.length=xs.length * k/\(∀j v,us[j]? = some v->w.cell? ⟨b,o+j,none⟩=some v)/\∀v∈us,one v=true
 | [],o,_=>⟨by simp,[],by simp [bp],by simp,by simp,by simp⟩
 | x::xs,o,h=>by
  obtain ⟨h1,h2,h3⟩:=h;obtain ⟨us,g1,g2,g3⟩:=dR.flat h2;obtain ⟨p1,vs,p2,p3,p4,p5⟩:=cS.flat h3;have hl:=g1.length;refine ⟨by intro y hy;simp at hy;rcases hy with rfl|hy;exact h1;exact p1 y hy,us++vs,?_,?_,?_,?_⟩
  ·rw [abB];exact g1.append p2
  ·simp [p3,hl,h1,abb];omega
  ·intro j v hv
   by_cases hj:j<us.length
   ·rw [aaY hj] at hv;exact g2 j v hv
   ·rw [aa4 (by omega)] at hv
    have:=p4 (j - us.length) v hv
    rwa [show o+k+(j - us.length)=o+j by omega] at this
  ·intro v hv
   simp at hv
   rcases hv with hv|hv
   ·exact g3 v hv
   ·exact p5 v hv
theorem dR.of_flat {w:World} {J:Nat->Nat->Prop} {b:Nat}:∀{ds:List Dat} {us:List Value} {o:Nat},bp w J ds us->(∀j v,us[j]? = some v->w.cell? ⟨b,o+j,none⟩=some v/\J b (o+j)/\one v=true)->dR w J b o ds
 | [],us,o,_,_=>trivial
 | d::ds,us,o,h,hc=>by
  obtain ⟨v,us',rfl,g1,g2⟩:=h;have h0:=hc 0 v rfl;refine ⟨⟨v,h0.1,h0.2.1,h0.2.2,g1⟩,dR.of_flat g2 ?_⟩;intro j u hu;have:=hc (j+1) u (by simpa using hu)
  rwa [show o+(j+1)=o+1+j by omega] at this
theorem bp.split {w:World} {J:Nat->Nat->Prop}:∀{xs ys:List Dat} {us:List Value},bp w J (xs++ys) us->bp w J xs (us.take xs.length)/\bp w J ys (us.drop xs.length)
 | [],ys,us,h=>by simpa [bp] using h
 | x::xs,ys,us,h=>by
  obtain ⟨v,us',rfl,g1,g2⟩:=h;obtain ⟨p1,p2⟩:=bp.split g2;exact ⟨⟨v,_,rfl,g1,p1⟩,p2⟩
theorem cS.of_flat {w:World} {J:Nat->Nat->Prop} {b k:Nat}:∀{xs:List (List Dat)} {us:List Value} {o:Nat},(∀x∈xs,x.length=k)->bp w J xs.flatten us->(∀j v,us[j]? = some v->w.cell? ⟨b,o+j,none⟩=some v/\J b (o+j)/\one v=true)->cS w J b k o xs
 | [],us,o,_,_,_=>trivial
 | x::xs,us,o,hk,h,hc=>by
  rw [abB] at h;have hx:=hk x (by simp);obtain ⟨h1,h2⟩:=bp.split h;refine ⟨hx,dR.of_flat h1 ?_,cS.of_flat (fun y hy=>hk y (by simp [hy])) h2 ?_⟩
  ·intro j v hv
   rw [aaH] at hv
   split at hv
   ·exact hc j v hv
   ·simp at hv
  ·intro j v hv
   rw [abq] at hv;have:=hc (x.length+j) v hv
   rwa [show o+(x.length+j)=o+k+j by omega] at this
theorem vW {α:Type} {k:Nat}:∀{xs:List (List α)} (h:∀x∈xs,x.length=k) (m:Nat),m<=xs.length->(xs.drop m).flatten=xs.flatten.drop (m * k)
 | xs,h,0,_=>by simp
 | [],h,m+1,hm=>by simp
 | x::xs,h,m+1,hm=>by
  have hx:=h x (by simp);rw [ab5,vW (fun y hy=>h y (by simp [hy])) m (by simpa using hm),abB,show (m+1) * k=x.length+m * k by rw [abb,hx];omega,adk]
theorem mO {α:Type} {k:Nat}:∀{xs:List (List α)} (h:∀x∈xs,x.length=k) (m:Nat),m<=xs.length->(xs.take m).flatten=xs.flatten.take (m * k)
 | xs,h,0,_=>by simp
 | [],h,m+1,hm=>by simp
 | x::xs,h,m+1,hm=>by
  have hx:=h x (by simp);rw [abd,abB,mO (fun y hy=>h y (by simp [hy])) m (by simpa using hm),abB,show (m+1) * k=x.length+m * k by rw [abb,hx];omega,List.take_length_add_append]
theorem nC {α:Type} {k:Nat} {xs:List (List α)} (h:∀x∈xs,x.length=k) (off len:Nat) (hle:off+len<=xs.length):((xs.drop off).take len).flatten=(xs.flatten.drop (off * k)).take (len * k):=by
 rw [mO (fun x hx=>h x (abP hx)) len (by simp;omega),vW h off (by omega)]
section
variable {P : Program} {Q : aG -> St -> Prop} {q : V -> St -> Tree} {c : Cx} {w0 : World} {n : Nat} {gs : Fr} {st : St} {a : Act} {K : Act -> World -> Prop} {Qx : Exit -> Act -> World -> Prop} {o : Oper} {xx : aG -> St -> Tree}
def Hm (c:Cx) (k:Nat) (gv:Value) (ys:List (List Dat)):Prop:=
 ((∃x:Option Addr,gv = .slice x 0 0)/\ys=[])\/∃b o cp us,gv = .slice (some ⟨b,o,none⟩) ys.length cp/\ys.length<=cp/\(∀x∈ys,x.length=k)/\bp c.w (Imm c) ys.flatten us/\us.length=ys.length * k/\
  (∀j v,us[j]? = some v->c.w.cell? ⟨b,o+j,none⟩=some v)/\∀v∈us,one v=true
theorem src_ok (r:Rel c w0 n gs st a) {k:Nat} {y:V} {gv:Value} {ys:List (List Dat)} {vb:Option Bool} (hy:aB c y gv) (h:RH st.heap k y=some (vb,ys)) (hvb:vb≠some false):Hm c k gv ys:=by
 unfold RH at h
 split at h
 ·simp at h;obtain ⟨_,rfl⟩:=h
  exact .inl ⟨⟨_,hy⟩,rfl⟩
 ·rename_i k' xs z
  split at h
  ·rename_i hb
   have hb:=aaB hb;simp at h;obtain ⟨_,rfl⟩:=h;subst hb;simp only [aB,aI] at hy
   rcases hy with hy|⟨b,o',cap,e1,e2,e3,e4⟩
   ·obtain ⟨⟨x,hx,_⟩,h0⟩:=hy;exact .inl ⟨⟨x,hx⟩,h0⟩
   obtain ⟨g1,us,g2,g3,g4,g5⟩:=cS.flat e4;exact .inr ⟨b,o',cap,us,e1,e2,g1,g2,g3,g4,g5⟩
  ·simp at h
 ·rename_i id ver off len
  simp only [aB] at hy;rw [r.heap] at hy
  split at h
  ·rename_i k' xs hl
   rw [hl] at hy
   split at h
   ·rename_i hb
    have hb:=aaB hb;simp at h;obtain ⟨_,rfl⟩:=h;subst hb;obtain ⟨f1,hy⟩:=hy;have hlen:((xs.drop off).take len).length=len:=by simp;omega
    rcases hy with ⟨f2,f3,_⟩|⟨b,o',cap,f2,f3,f4,f5⟩
    ·exact .inl ⟨⟨_,f2⟩,aaM (by omega)⟩
    obtain ⟨g1,us,g2,g3,g4,g5⟩:=cS.flat f4;exact .inr ⟨b,o',cap,us,by rw [hlen];exact f2,by rw [hlen];exact f3,g1,g2,g3,g4,g5⟩
   ·simp at h
  ·rename_i k' dU xs hl
   rw [hl] at hy
   split at h
   ·rename_i hb
    have hb1:=aaB hb;simp only [aaP,abf] at h;obtain ⟨h0,rfl⟩:=h;have hbv:Nat.beq ver dU = true:=by
     cases hbv:Nat.beq ver dU with
     | false=>rw [hbv] at h0;exact (hvb h0.symm).elim
     | true=>rfl
    have hb2:=aaB hbv;subst hb1 hb2;obtain ⟨_,_,f⟩:=hy;obtain ⟨f1,f2⟩:=f rfl;have hl' : look c.heap id=some (.mt k ver xs):=by rw [r.heap];exact hl
    obtain ⟨b3,b4,bb⟩:=r.hrel.blk id _ hl';have hlen:((xs.drop off).take len).length=len:=by simp;omega
    rcases f2 with ⟨f2,f3,_⟩|⟨b,o',f2,f3⟩
    ·exact .inl ⟨⟨_,f2⟩,aaM (by omega)⟩
    by_cases hl0:len=0
    ·subst hl0
     refine .inr ⟨b,o',(c.pl id).cap - off,[],by simpa using f2,by simp,by simp,by simp [bp],by simp,by simp,by simp⟩
    obtain ⟨vs,e,b1,b2,b5,b6⟩:=bb (by omega);have hfl:((xs.drop off).take len).flatten=(xs.flatten.drop (off * k)).take (len * k):=nC b4 off len (by omega);refine .inr ⟨b,o',(c.pl id).cap - off,((vs.toList.take (xs.length * k)).drop (off * k)).take (len * k),by rw [hlen];exact f2,by rw [hlen];omega,?_,?_,?_,?_,?_⟩
    ·intro x hx
     exact b4 x (abP (abD hx))
    ·rw [hfl];exact (b5.drop _).take _
    ·have h1:(off+len) * k<=xs.length * k:=abe _ f1
     have h2:xs.length * k<=vs.size:=by rw [b2];exact abe _ b3
     rw [abb] at h1;rw [hlen];simp;omega
    ·intro j v hv
     rw [aaH] at hv
     split at hv
     ·rename_i hj
      rw [abq,aaH] at hv
      split at hv
      ·have ZV:0<len:=by
        rcases Nat.eq_zero_or_pos len with h0|h0
        ·subst h0;simp at hj
        ·exact h0
       obtain ⟨rfl,rfl⟩:=f3 (by omega);rw [ct b1];simpa using hv
      ·simp at hv
     ·simp at hv
    ·intro v hv
     exact b6 v (abP (abD hv))
   ·simp at h
  ·simp at h
 ·simp at h
end
end Uw
namespace Uw
open Go Go.RowKit
variable [Glob]
section
variable {P : Program} {Q : aG -> St -> Prop} {q : V -> St -> Tree} {c : Cx} {w0 : World} {n : Nat} {gs : Fr} {st : St} {a : Act} {K : Act -> World -> Prop} {Qx : Exit -> Act -> World -> Prop} {o : Oper} {xx : aG -> St -> Tree}
theorem zW (r:Rel c w0 n gs st a) (m:Bool) {k cap:Nat} {xs:List (List Dat)} {us:List Value} {vs:Array Value} {e:TypeId} (h1:∀x∈xs,x.length=k) (h2:bp c.w (Imm c) xs.flatten us) (h3:∀v∈us,one v=true)
  (h4:vs.size=cap * k) (h5:xs.length<=cap) (h6:vs.toList.take (xs.length * k)=us) :
  Rel (c.push st.next cap (cM m k xs) (.cells vs e)) w0 n gs (eQ st (cM m k xs)) a/\aB (c.push st.next cap (cM m k xs) (.cells vs e)) (.ref st.next 0 0 xs.length) (.slice (some ⟨c.w.heap.size,0,none⟩) xs.length cap):=by
 have hev:Evo c (c.push st.next cap (cM m k xs) (.cells vs e)):=Evo.push r.hrel;have hpl:(c.push st.next cap (cM m k xs) (.cells vs e)).pl st.next=⟨c.w.heap.size,cap⟩:=by simp [Cx.push]
 have hlook:look (c.push st.next cap (cM m k xs) (.cells vs e)).heap st.next=some (cM m k xs):=by simp [Cx.push,ai]
 have hblk:(c.push st.next cap (cM m k xs) (.cells vs e)).w.heap[c.w.heap.size]? = some (.cells vs e (0,0)):=by
  show (c.w.heap.push (.cells vs e))[c.w.heap.size]? = _;simp
 have h2':=bp.keep hev.keeps _ _ h2;have hul:us.length=xs.length * k:=by
  rw [h2.length,il h1]
 cases m with
 | true=>
  have hb:cU (c.push st.next cap (cM true k xs) (.cells vs e)) st.next (cM true k xs):=by
   refine ⟨by rw [hpl];exact h5,h1,fun _=>⟨vs,e,by rw [hpl];exact hblk,by rw [hpl];exact h4,by rw [h6];exact h2',by rw [h6];exact h3⟩⟩
  refine ⟨r.push hb,?_⟩;have hpl' : (c.push st.next cap (.mt k 0 xs) (.cells vs e)).pl st.next=⟨c.w.heap.size,cap⟩:=hpl;simp only [aB];rw [hlook];simp only [cM];refine ⟨aax _,⟨_,_,_,rfl⟩,fun _=>⟨by simp,.inr ⟨c.w.heap.size,0,?_,fun _=>?_⟩⟩⟩
  ·rw [hpl'];rfl
  ·rw [hpl'];simp
 | false=>
  have hE:cS (c.push st.next cap (cM false k xs) (.cells vs e)).w (Imm (c.push st.next cap (cM false k xs) (.cells vs e))) c.w.heap.size k 0 xs:=by
   refine cS.of_flat h1 h2' ?_;intro j v hv;have hj:j<us.length:=by
    by_cases hh:j<us.length
    ·exact hh
    ·rw [aaJ (by omega)] at hv;cases hv
   refine ⟨?_,?_,h3 v (aaR hv)⟩
   ·rw [ct hblk]
    rw [<- h6,aaH,if_pos (by omega)] at hv;simpa using hv
   ·refine .inr ⟨r.hrel.su (aax _),?_,?_⟩
    ·show c.w.heap.size<(c.w.heap.push (.cells vs e)).size
     simp
    ·intro id blk hl hph hg
     by_cases hid:st.next=id
     ·subst hid
      rw [hlook] at hl;injection hl with hl;subst hl
      exact ⟨k,xs,rfl,by omega⟩
     ·exfalso
      simp only [Cx.push,ai,if_neg hid] at hl;simp [Cx.push,show id≠st.next from fun h=>hid h.symm] at hg hph;have:=r.hrel.jX hl hph;omega
  have hb:cU (c.push st.next cap (cM false k xs) (.cells vs e)) st.next (cM false k xs):=by
   refine ⟨by rw [hpl];exact h5,fun _=>⟨vs,e,by rw [hpl];exact hblk,by rw [hpl];exact h4,by rw [hpl];exact hE⟩⟩
  refine ⟨r.push hb,?_⟩;have hpl' : (c.push st.next cap (.arr k xs) (.cells vs e)).pl st.next=⟨c.w.heap.size,cap⟩:=hpl;simp only [aB];rw [hlook];simp only [cM];refine ⟨by simp,.inr ⟨c.w.heap.size,0,cap,rfl,h5,?_,fun _=>?_⟩⟩
  ·have hE' : cS (c.push st.next cap (.arr k xs) (.cells vs e)).w (Imm (c.push st.next cap (.arr k xs) (.cells vs e))) c.w.heap.size k 0 xs:=hE
   simpa using hE'
  ·rw [hpl'];simp
theorem Oi (r:Rel c w0 n gs st a) (m:Bool) (k:Nat) {x:Option Addr} (hx:x=none\/∃b o,x=some ⟨b,o,none⟩) :
  Rel (c.zero st.next (cM m k [])) w0 n gs (eQ st (cM m k [])) a/\aB (c.zero st.next (cM m k [])) (.ref st.next 0 0 0) (.slice x 0 0):=by
 have hlook:look (c.zero st.next (cM m k [])).heap st.next=some (cM m k []):=by simp [Cx.zero,ai]
 have hpl:(c.zero st.next (cM m k [])).pl st.next=⟨0,0⟩:=by simp [Cx.zero]
 have hph:¬Ph ⟨0,0⟩ (cM m k []):=by cases m<;>simp [cM,Ph]
 refine ⟨r.zero hph ?_,?_⟩
 ·cases m with
  | true=>exact ⟨by simp,by simp,fun h=>by rw [hpl] at h;simp at h⟩
  | false=>exact ⟨by simp,fun h=>by rw [hpl] at h;simp at h⟩
 ·simp only [aB]
  rw [hlook]
  cases m with
  | true=>
   refine ⟨aax _,⟨_,_,_,rfl⟩,fun _=>⟨by simp,?_⟩⟩
   rcases hx with rfl|⟨b,o,rfl⟩
   ·exact .inl ⟨rfl,rfl,rfl,by rw [hpl]⟩
   ·exact .inr ⟨b,o,by rw [hpl];rfl,fun h=>by rw [hpl] at h;simp at h⟩
  | false=>
   refine ⟨by simp,?_⟩
   rcases hx with rfl|⟨b,o,rfl⟩
   ·exact .inl ⟨rfl,rfl,fun _=>by rw [hpl]⟩
   ·exact .inr ⟨b,o,0,rfl,by simp,by simp [cS],fun _=>by rw [hpl];simp⟩
theorem fx {t ty e:TypeId} {i:TypeInfo} {w:World} {base xb:Option Addr} {sLen sCap xc:Nat} (ht:P.underlying t=some (.slice e)) (hi:P.info? e=some i) (hle:sLen<=sCap) :
  (Builtin.append_ #[t,t] ty #[.slice base sLen sCap,.slice xb 0 xc]).run P w = .ok (.slice base sLen sCap) w:=by
 cases base<;>cases xb<;>simp [Builtin.append_,cD ht,Go.sizeOf,typeInfo,hi,Builtin.lenOf,Builtin.firstCells,loadCells,loadCellsFrom,storeCells,hle]
theorem E3 {t ty e:TypeId} {i:TypeInfo} {w:World} {g off sLen sCap m cp b o' k:Nat} {cur:Array Value} {e' : TypeId} {news:List Value} (ht:P.underlying t=some (.slice e)) (hi:P.info? e=some i) (hk:i.size=k)
  (hg:w.heap[g]? = some (.cells cur e' (0,0))) (hl:news.length=m * k) (hnews:∀j u,news[j]? = some u->w.cell? ⟨b,o' + j,none⟩=some u) (h1:∀u∈news,one u=true)
  (hroom:sLen+m<=sCap) (hfit:off+sLen * k+news.length<=cur.size) :
  ∃w',(Builtin.append_ #[t,t] ty #[.slice (some ⟨g,off,none⟩) sLen sCap,.slice (some ⟨b,o',none⟩) m cp]).run P w = .ok (.slice (some ⟨g,off,none⟩) (sLen+m) sCap) w'/\Laid w w' g (iZ cur (off+sLen * k) news) e':=by
 obtain ⟨w',hw',L⟩:=nB (P:=P) g (off+sLen * k) news 0 cur w hg (by omega) h1;refine ⟨w',?_,L⟩;have hf:(Builtin.firstCells k m (.slice (some ⟨b,o',none⟩) m cp)).run P w = .ok news.toArray w:=by
  simp only [Builtin.firstCells];exact run_loadCells hl hnews
 subst hk;simp [Builtin.append_,cD ht,Go.sizeOf,typeInfo,hi,Builtin.lenOf,hroom,hf,addr_add,hw']
theorem bK {cl:Call} {x y:Operand} {t:TypeId} {w w' : World} {v:Value} (ho:o.op = .call cl) (hb:cl.callee = .builtin .append) (hx:cl.args.toList=[x,y]) (ht:cl.argTypes.toList=[t,t])
  (h:(Builtin.append_ #[t,t] o.type #[a.eval x,a.eval y]).run P w = .ok v w'):(execOp a.eval o).run P w = .ok (.value v) w':=by
 obtain ⟨cal,args,ats⟩:=cl;simp only at hb hx ht;subst hb;have hx' : args = #[x,y]:=by rw [<- hx]
 have ht' : ats = #[t,t]:=by rw [<- ht]
 subst hx' ht';simp only [execOp,ho,resolve,invoke,builtin];simp [h]
theorem Oj (r:Rel c w0 n gs st a):Rel { c with w:=c.w.drew } w0 n gs st a:=
 r.grow ⟨rfl,rfl,rfl,aax _,fun _ _=>rfl⟩
theorem Ol (c:Cx):Keeps c.w c.w.drew (Imm c) (Imm { c with w:=c.w.drew }):=by
 intro b o' h;exact ⟨h,rfl⟩
structure sy (P:Program) (t e:TypeId) (k bytes:Nat):Prop where
 und:P.underlying t=some (.slice e)
 info:∃i z zs,P.info? e=some i/\i.size=k/\i.bytes=bytes/\i.zero=some z/\jU z.cells.toList=some zs/\z.cells.size=k
 pos:0<bytes
theorem xQ (r:Rel c w0 n gs st a) (m:Bool) {k need cap:Nat} {e:TypeId} {z:Value} {xs:List (List Dat)} {us:List Value} (h1:∀x∈xs,x.length=k) (h2:bp c.w (Imm c) xs.flatten us) (h3:∀v∈us,one v=true) (hz:z.cells.size=k) (hn:xs.length=need) (hc:need<=cap) :
  ∃c' : Cx,c'.B=c.B/\c'.J0=c.J0/\c'.w=c.w.drew.alloc (.cells (us.toArray++Builtin.zeroCells z.cells (cap - need)) e)/\Rel c' w0 n gs (eQ st (cM m k xs)) a/\
  aB c' (.ref st.next 0 0 xs.length) (.slice (some ⟨c.w.heap.size,0,none⟩) xs.length cap):=by
 have hul:us.length=xs.length * k:=by rw [h2.length,il h1]
 refine ⟨Cx.push { c with w:=c.w.drew } st.next cap (cM m k xs) (.cells (us.toArray++Builtin.zeroCells z.cells (cap - need)) e),rfl,rfl,rfl,?_⟩;refine zW (Oj r) m h1 (bp.keep (Ol c) _ _ h2) h3 ?_ (by omega) ?_
 ·have hz' : (Builtin.zeroCells z.cells (cap - need)).size=(cap - need) * k:=by simp [Builtin.zeroCells,hz]
  rw [ab4,hz',abY,hul,hn,<- abb]
  congr 1;omega
 ·rw [aco,<- hul];simp
end
end Uw
namespace Uw
open Go Go.RowKit
variable [Glob]
section
variable {P : Program} {Q : aG -> St -> Prop} {q : V -> St -> Tree} {c : Cx} {w0 : World} {n : Nat} {gs : Fr} {st : St} {a : Act} {K : Act -> World -> Prop} {Qx : Exit -> Act -> World -> Prop} {o : Oper} {xx : aG -> St -> Tree}
theorem Rel.aN (r:Rel c w0 n gs st a) {id:Nat} {b b' : Blk} {p' : Pl} (hl:look c.heap id=some b) {w' : World}
  (hother:∀k,k<c.w.heap.size->(Ph (c.pl id) b->k≠(c.pl id).gb)->w'.heap[k]? = c.w.heap[k]?) (hsz:c.w.heap.size<=w'.heap.size) (hbel:Below c.B c.w w')
  (hp:(p'.gb=(c.pl id).gb/\(Ph p' b'->Ph (c.pl id) b))\/c.w.heap.size<=p'.gb)
  (zc:Ph (c.pl id) b->∀o,Imm c (c.pl id).gb o->w'.cell? ⟨(c.pl id).gb,o,none⟩=c.w.cell? ⟨(c.pl id).gb,o,none⟩/\(p'.gb=(c.pl id).gb->∃k xs,b' = .arr k xs/\o<xs.length * k))
  (hbe:dm (c.pl id) p' b b') (hb:Evo c (c.aN id b' p' w')->cU (c.aN id b' p' w') id b'):Rel (c.aN id b' p' w') w0 n gs { st with heap:=(id,b')::st.heap } a:=by
 have he:=Evo.aN r.hrel hl hother hsz hp zc hbe;exact r.evo he (by simp [Cx.aN,r.heap]) (r.hrel.aN hl he hother hbel hp (hb he)) rfl rfl rfl (aax _)
theorem yF {t e ty:TypeId} {k bytes g cap len m cp b o' : Nat} {w:World} {vs:Array Value} {e' : TypeId} {us:List Value} (he:sy P t e k bytes) (hg:w.heap[g]? = some (.cells vs e' (0,0))) (hs:vs.size=cap * k) (hlen:len<=cap)
  (hone:∀v∈vs.toList.take (len * k),one v=true)
  (hl:us.length=m * k) (hn:∀j v,us[j]? = some v->w.cell? ⟨b,o' + j,none⟩=some v) (h1:∀v∈us,one v=true) (hby:(len+m) * bytes<=70368744177664) :
  (∃w',(Builtin.append_ #[t,t] ty #[.slice (some ⟨g,0,none⟩) len cap,.slice (some ⟨b,o',none⟩) m cp]).run P w = .ok (.slice (some ⟨g,0,none⟩) (len+m) cap) w'/\len+m<=cap/\Laid w w' g (iZ vs (len * k) us) e')\/
  (∃w' cap' vs',(Builtin.append_ #[t,t] ty #[.slice (some ⟨g,0,none⟩) len cap,.slice (some ⟨b,o',none⟩) m cp]).run P w = .ok (.slice (some ⟨w.heap.size,0,none⟩) (len+m) cap') w'/\len+m<=cap'/\w' = w.drew.alloc (.cells vs' e)/\vs'.size=cap' * k/\
   vs'.toList.take ((len+m) * k)=vs.toList.take (len * k)++us):=by
 obtain ⟨i,z,zs,hi,hsz,Jo,hzero,hzs,hzk⟩:=he.info;have qS:=he.und;have hpos:=he.pos;have hle:len+m<=70368744177664:=aa7 (abI _ hpos) hby
 have hlk:len * k<=vs.size:=by rw [hs];exact abe _ hlen
 by_cases hroom:len+m<=cap
 ·left
  have hfit:0+len * k+us.length<=vs.size:=by
   rw [hl,hs,aaF,<- abb];exact abe _ hroom
  obtain ⟨w',hw',L⟩:=E3 (P:=P) (ty:=ty) (cp:=cp) (off:=0) qS hi hsz hg hl hn h1 hroom hfit;exact ⟨w',hw',hroom,by simpa using L⟩
 ·right
  have hold:(vs.toList.take (len * k)).length=len * k:=by simp;omega
  have hgr:=run_append_grow w t ty e i z qS hi hzero ⟨g,0,none⟩ len cap (vs.toList.take (len * k)) (by rw [hsz];exact hold) (fun j v hv=>by
    rw [addr_add,ct hg];rw [aaH] at hv
    split at hv
    ·simpa using hv
    ·simp at hv) ⟨b,o',none⟩ m cp us (by rw [hsz];exact hl) (fun j v hv=>by rw [addr_add];exact hn j v hv) (by omega) (by omega) (growslice_fits (by omega) (by rw [Jo];omega))
  have hge:=grownCap_ge w (len+m) cap e;refine ⟨_,grownCap w (len+m) cap e,_,hgr,hge,rfl,?_,?_⟩
  ·have hz' : (Builtin.zeroCells z.cells (grownCap w (len+m) cap e - (len+m))).size=(grownCap w (len+m) cap e - (len+m)) * k:=by simp [Builtin.zeroCells,hzk]
   rw [ab4,ab4,hz',abY,abY,hold,hl,<- abb,<- abb]
   congr 1;omega
  ·have h3:(vs.toList.take (len * k)++us).length=(len+m) * k:=by rw [aaw,hold,hl,abb]
   simp only [aco,aaD];rw [<- aaD,<- h3];exact adn
theorem vX {t e ty:TypeId} {k bytes m cp b o' b1 o1:Nat} {w:World} {us:List Value} (he:sy P t e k bytes)
  (hl:us.length=m * k) (hn:∀j v,us[j]? = some v->w.cell? ⟨b,o' + j,none⟩=some v) (hm:0<m) (hby:m * bytes<=70368744177664) :
  ∃w' cap' vs',(Builtin.append_ #[t,t] ty #[.slice (some ⟨b1,o1,none⟩) 0 0,.slice (some ⟨b,o',none⟩) m cp]).run P w = .ok (.slice (some ⟨w.heap.size,0,none⟩) m cap') w'/\m<=cap'/\w' = w.drew.alloc (.cells vs' e)/\vs'.size=cap' * k/\
   vs'.toList.take (m * k)=us:=by
 obtain ⟨i,z,zs,hi,hsz,Jo,hzero,hzs,hzk⟩:=he.info;have qS:=he.und;have hpos:=he.pos;have hle:m<=70368744177664:=aa7 (abI _ hpos) hby
 have hgr:=run_append_grow w t ty e i z qS hi hzero ⟨b1,o1,none⟩ 0 0 [] (by simp) (by simp) ⟨b,o',none⟩ m cp us (by rw [hsz];exact hl) (fun j v hv=>by rw [addr_add];exact hn j v hv) (by omega) (by omega) (growslice_fits (by omega) (by rw [Jo,aaF];omega));simp only [aaF] at hgr;have hge:=grownCap_ge w m 0 e;refine ⟨_,grownCap w m 0 e,_,hgr,hge,rfl,?_,?_⟩
 ·have hz' : (Builtin.zeroCells z.cells (grownCap w m 0 e - m)).size=(grownCap w m 0 e - m) * k:=by simp [Builtin.zeroCells,hzk]
  rw [ab4,ab4,hz',abY,abY,hl,aa3,aaF,<- abb]
  congr 1;omega
 ·simp only [aco,aaD,acd]
  rw [<- hl];exact adn
theorem zX {vs:Array Value} {us:List Value} {p m:Nat} (h:p+us.length=m) (hm:m<=vs.size):(iZ vs p us).toList.take m=vs.toList.take p++us:=by
 rw [jA];apply ab3;intro j;rw [aaH,jJ];simp only [acI];by_cases hj:j<p
 ·rw [aaY (by simp;omega),aaH,if_pos hj,if_pos (by omega),if_neg (by omega)]
 ·rw [aa4 (by simp;omega)]
  simp only [aa5,acI];by_cases hjm:j<m
  ·rw [if_pos hjm,if_pos (by omega)]
   congr 1;omega
  ·rw [if_neg hjm]
   rw [aaJ (by omega)]
theorem VZ (r:Rel c w0 n gs st a) (hK:bL P Q q c w0 n gs st a o.dst K) {cl:Call} {x1 x2:Operand} {t e:TypeId} {k bytes id ver len:Nat} {xs ys:List (List Dat)} (ho:o.op = .call cl) (hb:cl.callee = .builtin .append) (hx:cl.args.toList=[x1,x2]) (ht:cl.argTypes.toList=[t,t])
  (he:sy P t e k bytes) (hl' : look st.heap id=some (.mt k ver xs)) (hv1:aB c (.ref id ver 0 len) (a.eval x1)) (e2:Hm c k (a.eval x2) ys) (hby:(len+ys.length) * bytes<=70368744177664)
  (h:WT P Q (q (.ref id (ver+1) 0 (len+ys.length)) { st with heap:=(id,.mt k (ver+1) (xs.take len++ys))::st.heap })):o.wp P a c.w K Qx:=by
 have hl:look c.heap id=some (.mt k ver xs):=by rw [r.heap];exact hl'
 simp only [aB,hl] at hv1;obtain ⟨_,_,hv1⟩:=hv1;obtain ⟨v1,v2⟩:=hv1 rfl;simp only [aaF,acS,adu] at v1 v2;obtain ⟨b3,b4,bb⟩:=r.hrel.blk id _ hl;have hll:(xs.take len).length=len:=by simp;omega
 have hk1:∀x∈xs.take len,x.length=k:=fun x hx=>b4 x (abD hx);by_cases hcap0:(c.pl id).cap=0
 ·-- there is no room,and nothing
  have hl0:len=0:=by omega
  have hxs:xs=[]:=aaM (by omega);subst hl0 hxs;have nph:¬Ph (c.pl id) (.mt k ver []):=by simp [Ph,hcap0]
  obtain ⟨xa,hxa,Hn⟩:∃xa:Option Addr,a.eval x1 = .slice xa 0 0/\(xa=none\/∃b o,xa=some ⟨b,o,none⟩):=by
   rcases v2 with ⟨v2,_⟩|⟨b,o1,v2,_⟩
   ·exact ⟨none,v2,.inl rfl⟩
   ·exact ⟨some ⟨b,o1,none⟩,by rw [v2,hcap0],.inr ⟨b,o1,rfl⟩⟩
  have Hq:ys=[]->(∃xb xc,a.eval x2 = .slice xb 0 xc)->o.wp P a c.w K Qx:=by
   rintro rfl ⟨xb,xc,hx2⟩;simp only [aa6,List.take_nil,aa3,abT] at h;have hrel:Rel (c.aN id (.mt k (ver+1) []) (c.pl id) c.w) w0 n gs { st with heap:=(id,.mt k (ver+1) [])::st.heap } a:=by
    refine r.aN hl (fun _ _ _=>rfl) (aax _) (Below.refl _ _) (.inl ⟨rfl,fun h=>h⟩) (fun hh=>(nph hh).elim) ⟨rfl,by omega,fun hh=>by omega⟩ (fun hev=>?_);exact ⟨by simp,by simp,fun hh=>by rw [ae.2] at hh;omega⟩
   refine cF (w':=c.w) (bK ho hb hx ht ?_) (hK (c.aN id (.mt k (ver+1) []) (c.pl id) c.w) _ (.ref id (ver+1) 0 0) (.slice xa 0 0) rfl rfl hrel rfl ?_ h)
   ·rw [hxa,hx2]
    obtain ⟨i,z,zs,hi,_⟩:=he.info;exact fx he.und hi (by omega)
   ·simp only [aB,ae.1]
    refine ⟨aax _,⟨_,_,_,rfl⟩,fun _=>⟨by simp,?_⟩⟩;rw [ae.2]
    rcases Hn with rfl|⟨b,o1,rfl⟩
    ·exact .inl ⟨rfl,rfl,rfl,hcap0⟩
    ·exact .inr ⟨b,o1,by rw [hcap0],fun hh=>by omega⟩
  rcases e2 with ⟨⟨_,e2⟩,rfl⟩|⟨bb',o',cp,us,e2,e3,e4,e5,e6,e7,e8⟩
  ·exact Hq rfl ⟨_,0,e2⟩
  ·by_cases hy0:ys=[]
   ·exact Hq hy0 ⟨_,cp,by rw [e2,hy0];rfl⟩
   ·have hpos' : 0<ys.length:=by cases ys<;>simp_all
    simp only [List.take_nil,acd,aaF] at h hby
    have hrun:∃w' cap' vs',(Builtin.append_ #[t,t] o.type #[a.eval x1,a.eval x2]).run P c.w = .ok (.slice (some ⟨c.w.heap.size,0,none⟩) ys.length cap') w'/\ys.length<=cap'/\w' = c.w.drew.alloc (.cells vs' e)/\vs'.size=cap' * k/\vs'.toList.take (ys.length * k)=us:=by
     rcases Hn with rfl|⟨b,o1,rfl⟩
     ·obtain ⟨i,z,zs,hi,hsz,Jo,hzero,hzs,hzk⟩:=he.info
      have hlen:ys.length<=70368744177664:=aa7 (abI _ he.pos) hby
      have hge:=grownCap_ge c.w ys.length 0 e;rw [hxa,e2];refine ⟨_,_,_,run_append_nil c.w t o.type e i z he.und hi hzero ⟨bb',o',none⟩ ys.length cp us (by rw [hsz];exact e6) (fun j v hv=>by rw [addr_add];exact e7 j v hv) hpos' (by omega) (by rw [Jo];omega),hge,rfl,?_,?_⟩
      ·have hz' : (Builtin.zeroCells z.cells (grownCap c.w ys.length 0 e - ys.length)).size=(grownCap c.w ys.length 0 e - ys.length) * k:=by simp [Builtin.zeroCells,hzk]
       rw [ab4,hz',abY,e6,<- abb]
       congr 1;omega
      ·rw [aco,<- e6];simp
     ·rw [hxa,e2]
      exact vX he e6 e7 hpos' hby
    obtain ⟨w',cap',vs',hw',hroom,rfl,hs',htake⟩:=hrun;have hbel:Below c.B c.w (c.w.drew.alloc (.cells vs' e)):=(Below.refl c.B c.w).drew.alloc r.hrel.zT _;have hrel:Rel (c.aN id (.mt k (ver+1) ys) ⟨c.w.heap.size,cap'⟩ (c.w.drew.alloc (.cells vs' e))) w0 n gs { st with heap:=(id,.mt k (ver+1) ys)::st.heap } a:=by
     refine r.aN hl (fun k' hk' _=>Below.heap_alloc c.w.drew _ _ hk') (by rw [show (c.w.drew.alloc (Obj.cells vs' e)).heap=c.w.heap.push (.cells vs' e) from rfl];simp) hbel (.inr (aax _)) (fun hh=>(nph hh).elim) ⟨rfl,by omega,fun hh=>by omega⟩ (fun hev=>?_);refine ⟨by rw [ae.2];exact hroom,e4,fun _=>⟨vs',e,?_,by rw [ae.2];exact hs',?_,?_⟩⟩
     ·rw [ae.2]
      show (c.w.heap.push (.cells vs' e))[c.w.heap.size]? = _;simp
     ·rw [htake];exact bp.keep hev.keeps _ _ e5
     ·rw [htake];exact e8
    refine cF (bK ho hb hx ht hw') (hK (c.aN id (.mt k (ver+1) ys) ⟨c.w.heap.size,cap'⟩ (c.w.drew.alloc (.cells vs' e))) _ (.ref id (ver+1) 0 ys.length) _ rfl rfl hrel rfl ?_ h);simp only [aB,ae.1];refine ⟨aax _,⟨_,_,_,rfl⟩,fun _=>⟨by omega,.inr ⟨c.w.heap.size,0,?_,?_⟩⟩⟩
    ·rw [ae.2];rfl
    ·rw [ae.2];simp
 have hcap:0<(c.pl id).cap:=by omega
 obtain ⟨vs,e',b1,b2,b5,b6⟩:=bb hcap;have hge:=r.hrel.ge id _ hl hcap;have hgb:=r.hrel.geB hl hcap;obtain ⟨b,o1,v2,v3⟩:∃b o,a.eval x1 = .slice (some ⟨b,o,none⟩) len (c.pl id).cap/\(0<(c.pl id).cap->b=(c.pl id).gb/\o=0):=by
  rcases v2 with ⟨_,_,_,v2⟩|v2
  ·omega
  ·exact v2
 have hlk:len * k<=xs.length * k:=abe _ v1;have hsz:xs.length * k<=vs.size:=by rw [b2];exact abe _ b3
 have htk:(vs.toList.take (xs.length * k)).take (len * k)=vs.toList.take (len * k):=by rw [List.take_take];congr 1;omega
 have hold:bp c.w (Imm c) (xs.take len).flatten (vs.toList.take (len * k)):=by
  rw [mO b4 len v1,<- htk];exact b5.take _
 have hone:∀v∈vs.toList.take (len * k),one v=true:=fun v hv=>b6 v (by rw [<- htk] at hv;exact abD hv);have Om:∀o,Imm c (c.pl id).gb o->False:=by
  intro o hi
  rcases hi with hi|⟨_,_,g3⟩
  ·exact hge hi.1
  ·obtain ⟨_,_,hh,_⟩:=g3 id _ hl hcap rfl;cases hh
 -- nothing is appended
 have zero:ys=[]->(∃xb xc,a.eval x2 = .slice xb 0 xc)->o.wp P a c.w K Qx:=by
  rintro rfl ⟨xb,xc,hx2⟩;simp only [aa6,aa3,abT] at h;have hrel:Rel (c.aN id (.mt k (ver+1) (xs.take len)) (c.pl id) c.w) w0 n gs { st with heap:=(id,.mt k (ver+1) (xs.take len))::st.heap } a:=by
   refine r.aN hl (fun _ _ _=>rfl) (aax _) (Below.refl _ _) (.inl ⟨rfl,fun _=>hcap⟩) (fun _ o hi=>(Om o hi).elim) ⟨rfl,by omega,fun hh=>by omega⟩ (fun hev=>?_);refine ⟨by rw [ae.2];omega,hk1,fun _=>⟨vs,e',by rw [ae.2];exact b1,by rw [ae.2];exact b2,?_,?_⟩⟩
   ·rw [hll];exact bp.keep hev.keeps _ _ hold
   ·rw [hll];exact hone
  refine cF (w':=c.w) (bK ho hb hx ht ?_) (hK (c.aN id (.mt k (ver+1) (xs.take len)) (c.pl id) c.w) _ (.ref id (ver+1) 0 len) (a.eval x1) rfl rfl hrel rfl ?_ h)
  ·rw [v2,hx2]
   obtain ⟨i,z,zs,hi,_⟩:=he.info;exact fx he.und hi (by omega)
  ·simp only [aB,ae.1]
   refine ⟨aax _,⟨_,_,_,v2⟩,fun _=>⟨by omega,.inr ⟨b,o1,?_,?_⟩⟩⟩
   ·rw [ae.2];exact v2
   ·rw [ae.2];simpa using v3
 rcases e2 with ⟨⟨_,e2⟩,rfl⟩|⟨bb,o',cp,us,e2,e3,e4,e5,e6,e7,e8⟩
 ·exact zero rfl ⟨_,0,e2⟩
 ·by_cases hy0:ys=[]
  ·exact zero hy0 ⟨_,cp,by rw [e2,hy0];rfl⟩
  ·have hpos' : 0<ys.length:=by cases ys<;>simp_all
   have hk2:∀x∈xs.take len++ys,x.length=k:=fun x hx=>by rcases aaZ.1 hx with hx|hx;exact hk1 x hx;exact e4 x hx
   have hfl:bp c.w (Imm c) (xs.take len++ys).flatten (vs.toList.take (len * k)++us):=by rw [ac2];exact hold.append e5
   have zY:∀v∈vs.toList.take (len * k)++us,one v=true:=fun v hv=>by rcases aaZ.1 hv with hv|hv;exact hone v hv;exact e8 v hv
   have xR:(xs.take len++ys).length=len+ys.length:=by rw [aaw,hll]
   -- it moves
   have moved:∀(w' : World) (cap' : Nat) (vs' : Array Value),(Builtin.append_ #[t,t] o.type #[a.eval x1,a.eval x2]).run P c.w = .ok (.slice (some ⟨c.w.heap.size,0,none⟩) (len+ys.length) cap') w'->len+ys.length<=cap'->w' = c.w.drew.alloc (.cells vs' e)->vs'.size=cap' * k->
     vs'.toList.take ((len+ys.length) * k)=vs.toList.take (len * k)++us->o.wp P a c.w K Qx:=by
    rintro w' cap' vs' hw' hroom rfl hs' htake;have hbel:Below c.B c.w (c.w.drew.alloc (.cells vs' e)):=(Below.refl c.B c.w).drew.alloc r.hrel.zT _;have hrel:Rel (c.aN id (.mt k (ver+1) (xs.take len++ys)) ⟨c.w.heap.size,cap'⟩ (c.w.drew.alloc (.cells vs' e))) w0 n gs { st with heap:=(id,.mt k (ver+1) (xs.take len++ys))::st.heap } a:=by
     refine r.aN hl (fun k' hk' _=>Below.heap_alloc c.w.drew _ _ hk') (by rw [show (c.w.drew.alloc (Obj.cells vs' e)).heap=c.w.heap.push (.cells vs' e) from rfl];simp) hbel (.inr (aax _)) (fun _ o hi=>(Om o hi).elim) ⟨rfl,by omega,fun hh=>by omega⟩ (fun hev=>?_);refine ⟨by rw [ae.2,xR];exact hroom,hk2,fun _=>⟨vs',e,?_,by rw [ae.2];exact hs',?_,?_⟩⟩
     ·rw [ae.2]
      show (c.w.heap.push (.cells vs' e))[c.w.heap.size]? = _;simp
     ·rw [xR,htake];exact bp.keep hev.keeps _ _ hfl
     ·rw [xR,htake];exact zY
    refine cF (bK ho hb hx ht hw') (hK (c.aN id (.mt k (ver+1) (xs.take len++ys)) ⟨c.w.heap.size,cap'⟩ (c.w.drew.alloc (.cells vs' e))) _ (.ref id (ver+1) 0 (len+ys.length)) _ rfl rfl hrel rfl ?_ h);simp only [aB,ae.1];refine ⟨aax _,⟨_,_,_,rfl⟩,fun _=>⟨by omega,.inr ⟨c.w.heap.size,0,?_,?_⟩⟩⟩
    ·rw [ae.2];rfl
    ·rw [ae.2];simp
   obtain ⟨rfl,rfl⟩:=v3 hcap
   rcases yF (ty:=o.type) (cp:=cp) he b1 b2 (by omega) hone e6 e7 e8 hby with ⟨w',hw',hroom,L⟩|⟨w',cap',vs',hw',hroom,rfl,hs',htake⟩
   ·have hrel:Rel (c.aN id (.mt k (ver+1) (xs.take len++ys)) (c.pl id) w') w0 n gs { st with heap:=(id,.mt k (ver+1) (xs.take len++ys))::st.heap } a:=by
     refine r.aN hl (fun k' _ hk'=>L.other k' (hk' hcap)) (by rw [L.size];exact aax _) (L.below hgb) (.inl ⟨rfl,fun _=>hcap⟩) (fun _ o hi=>(Om o hi).elim) ⟨rfl,by omega,fun hh=>by omega⟩ (fun hev=>?_);have RV:(iZ vs (len * k) us).toList.take ((xs.take len++ys).length * k)=vs.toList.take (len * k)++us:=by
      refine zX ?_ ?_
      ·rw [xR,e6,abb]
      ·rw [xR,b2];exact abe _ hroom
     refine ⟨by rw [ae.2,xR];exact hroom,hk2,fun _=>⟨_,e',by rw [ae.2];exact L.here,by rw [ae.2,qO];exact b2,?_,?_⟩⟩
     ·rw [RV];exact bp.keep hev.keeps _ _ hfl
     ·rw [RV];exact zY
    refine cF (w':=w') (bK ho hb hx ht (by rw [v2,e2];exact hw')) (hK (c.aN id (.mt k (ver+1) (xs.take len++ys)) (c.pl id) w') _ (.ref id (ver+1) 0 (len+ys.length)) _ rfl rfl hrel rfl ?_ h);simp only [aB,ae.1];refine ⟨aax _,⟨_,_,_,rfl⟩,fun _=>⟨by omega,.inr ⟨(c.pl id).gb,0,?_,?_⟩⟩⟩
    ·rw [ae.2];rfl
    ·rw [ae.2];simp
   ·exact moved _ cap' vs' (by rw [v2,e2];exact hw') hroom rfl hs' htake
end
end Uw
