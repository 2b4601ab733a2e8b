/- L1: Ua Ub Uc Ud0 Ud Ue Uf Ug Uh Ui Uj Uk Ur Us Ut Uu Uv (merged by merge2.py from the working texts). -/
import Derived.WalkKit
import Derived.StillTail
import Derived.Deep.LoopGhost
import Derived.LoopNIn
import Derived.LoopN
import Derived.OrdersIn
import Derived.RangeFuncCalls
import Derived.Scope
set_option linter.unusedSimpArgs false
set_option linter.unnecessarySimpa false
set_option linter.unusedVariables false
set_option linter.unusedSectionVars false
namespace Uw
abbrev i5:=@List.take_of_length_le
abbrev i9:=@Bool.and_eq_true
abbrev wt:=@Nat.eq_of_beq_eq_true
abbrev AN:=@List.getElem?_eq_getElem
abbrev Ls:=@Nat.le_refl
abbrev ON:=@List.getElem?_take
abbrev Pe:=@Option.map_eq_some_iff
abbrev YW:=@List.all_eq_true
abbrev YX:=@List.getElem_mem
abbrev YY:=@List.drop_zero
abbrev YZ:=@List.eq_nil_of_length_eq_zero
abbrev Y0:=@Nat.le_of_ble_eq_true
abbrev Y1:=@List.getElem?_drop
abbrev Y2:=@List.getElem?_eq_none
abbrev Y3:=@Bool.false_and
abbrev Y4:=@Bool.false_eq_true
abbrev Y5:=@Nat.mul_le_mul_right
abbrev Y6:=@Nat.add_mul
abbrev Y7:=@List.length_cons
abbrev Y8:=@Option.some.injEq
abbrev Y9:=@Nat.zero_add
abbrev Za:=@List.mem_append
abbrev Zb:=@Bool.true_and
abbrev Zc:=@List.getElem?_eq_some_iff
abbrev Zd:=@List.getElem?_map
abbrev Ze:=@List.eq_of_mem_replicate
abbrev Zf:=@List.mem_of_getElem?
abbrev Zg:=@List.take_succ_eq_append_getElem
abbrev Zh:=@List.mem_or_eq_of_mem_set
abbrev Zi:=@List.mem_of_mem_take
abbrev Zj:=@List.mem_cons
abbrev Zk:=@List.flatten_cons
abbrev Zl:=@Bool.or_eq_true
abbrev Zm:=@Nat.lt_of_lt_of_le
abbrev Zn:=@Nat.le_trans
abbrev Zo:=@List.drop_eq_getElem_cons
abbrev Zp:=@List.replicate_succ'
abbrev Zq:=@List.mem_iff_getElem
abbrev Zr:=@List.map_set
abbrev Zs:=@List.length_append
abbrev Zt:=@Bool.or_eq_false_iff
abbrev Zu:=@List.cons.injEq
abbrev Zv:=@Bool.eq_iff_iff
abbrev Zw:=@List.takeWhile_cons
abbrev Zx:=@Array.getElem?_toList
abbrev Zy:=@Array.getD_eq_getD_getElem?
abbrev Zz:=@Nat.le_mul_of_pos_right
abbrev ZA:=@List.getElem?_append_right
abbrev ZB:=@List.getElem?_append_left
abbrev ZC:=@Bool.not_eq_true'
abbrev ZD:=@List.map_cons
abbrev ZE:=@List.take_length
abbrev ZF:=@Bool.not_true
abbrev ZG:=@Nat.lt_or_ge
abbrev ZH:=@Array.getElem?_eq_some_iff
abbrev ZI:=@Array.getElem?_eq_none
abbrev ZJ:=@List.replicate_succ
abbrev ZK:=@List.length_nil
abbrev ZL:=@List.pairwise_iff_getElem
abbrev ZM:=@Prod.mk.injEq
abbrev ZN:=@Nat.zero_le
abbrev ZO:=@List.mem_of_mem_drop
abbrev ZP:=@List.append_assoc
abbrev ZQ:=@Nat.beq_refl
abbrev ZR:=@Nat.add_zero
abbrev ZS:=@List.getD_eq_getElem?_getD
abbrev ZT:=@List.take_append_drop
abbrev ZU:=@List.length_set
abbrev ZV:=@List.size_toArray
abbrev ZW:=@List.ext_getElem?
abbrev ZX:=@Array.size_append
abbrev ZY:=@List.cons_append
abbrev ZZ:=@List.length_map
abbrev Z1:=@List.append_nil
abbrev Z2:=@List.any_eq_false
abbrev Z3:=@Nat.le_of_not_lt
abbrev Z4:=@Bool.true_or
abbrev Z5:=@Array.toList_map
abbrev Z6:=@Array.toList_append
abbrev Z7:=@List.map_append
abbrev Z8:=@List.mem_range
abbrev Z9:=@List.all_eq_false
abbrev aac:=@List.length_singleton
abbrev aad:=@List.any_eq_true
abbrev aae:=@List.getElem?_of_mem
abbrev aaf:=@Option.map_none
abbrev aag:=@List.foldl_cons
abbrev aah:=@Array.getElem?_setIfInBounds
abbrev aai:=@List.take_succ_cons
abbrev aaj:=@List.length_pos_iff
abbrev aak:=@List.append_toArray
abbrev aal:=@Array.length_toList
abbrev aam:=@List.mem_singleton
abbrev aan:=@List.map_replicate
abbrev aao:=@List.drop_drop
abbrev aap:=@List.getElem?_set
abbrev aaq:=@Int.toNat_natCast
abbrev aar:=@Int.le_refl
abbrev aas:=@Nat.add_assoc
abbrev aat:=@List.all_cons
abbrev aau:=@List.length_take
abbrev aav:=@List.getElem_cons_succ
abbrev aaw:=@Bool.or_true
abbrev aax:=@Option.some.inj
abbrev aay:=@Option.map_some
abbrev aaz:=@List.nil_append
abbrev aaA:=@List.length_replicate
abbrev aaB:=@Array.getElem?_modify
abbrev aaC:=@List.take_take
abbrev aaD:=@List.mem_cons_of_mem
abbrev aaE:=@List.drop_take
abbrev aaF:=@Int.ofNat_eq_natCast
abbrev aaG:=@Bool.not_false
abbrev aaH:=@List.flatten_append
abbrev aaI:=@List.drop_succ_cons
abbrev aaJ:=@Int.cast_ofNat_Int
abbrev aaK:=@Array.foldl_toList
abbrev aaL:=@Nat.zero_mul
abbrev aaM:=@Nat.sub_zero
abbrev aaN:=@Nat.sub_self
abbrev aaO:=@Nat.add_comm
abbrev aaP:=@List.nodup_append
abbrev aaQ:=@List.mem_map
abbrev aaR:=@List.getElem_drop
abbrev aaS:=@List.mem_flatten
abbrev aaT:=@List.eq_nil_iff_forall_not_mem
abbrev aaU:=@List.drop_length
abbrev aaV:=@Int.mul_le_mul_of_nonneg_left
abbrev aaW:=@UInt8.toNat_inj
abbrev aaX:=@List.sum_append
abbrev aaY:=@List.all_append
abbrev aaZ:=@List.drop_length_add_append
abbrev aa0:=@List.take_left
abbrev aa1:=@List.tail_drop
abbrev aa2:=@List.nodup_nil
abbrev aa3:=@Bool.and_false
abbrev aa4:=@Array.toList_setIfInBounds
abbrev aa5:=@List.mem_take_iff_getElem
abbrev aa6:=@List.getLastD_eq_getLast?
abbrev aa7:=@List.extract_eq_take_drop
abbrev aa8:=@Array.getElem?_eq_getElem
abbrev aa9:=@Option.isSome_iff_exists
abbrev abb:=@List.set_eq_of_length_le
abbrev abd:=@Bool.or_false
abbrev abe:=@Bool.false_or
abbrev abf:=@Option.bind_eq_some_iff
abbrev abg:=@List.getElem?_replicate
abbrev abh:=@List.drop_eq_nil_of_le
abbrev abj:=@Nat.ble_eq_true_of_le
abbrev abk:=@List.takeWhile_prefix
open Go
inductive Dat where
 | bool (b:Bool)
 | int (k:IntKind) (n:Int)
 | str (s:List UInt8)
 | nil
 | slice (k:Nat) (xs:List (List Dat)) (z:Bool)
 | agg (cs:List Dat)
 | func (f:FuncId)
 | nilFunc
 | nilIface
 | nilPtr
 | qu
 | iface (t:TypeId) (d:Dat)
 | tuple (ds:List Dat)
 deriving Inhabited
inductive V where
 | d (x:Dat)
 | ptr (id off:Nat)
 | ro (cs:List Dat) (off:Nat)
 | kV (id ver i c:Nat)
 | ref (id ver off len:Nat)
 | agg (cs:List V)
 | func (f:FuncId) (first cap:List V)
 | tuple (vs:List V)
 | hnd (id:Nat)
 | row (id len:Nat)
 | undef
 deriving Inhabited
inductive oJ where
 | i (n:Int)
 | s (b:List UInt8)
 deriving DecidableEq,Inhabited
inductive Blk where
 | var (cs:List V)
 | arr (k:Nat) (xs:List (List Dat))
 | mt (k ver:Nat) (xs:List (List Dat))
 | iter (s:List UInt8) (pos:Nat)
 | map (kk:Option IntKind) (es:List (oJ×Dat))
 deriving Inhabited
abbrev jm:=List (Nat×V)
abbrev Heap:=List (Nat×Blk)
structure St where
 regs:jm
 heap:Heap
 next:Nat
 defers:List V
 base:Nat
inductive Res where
 | val (v:V)
 | pan (d:Dat)
def look {α:Type}:List (Nat×α)->Nat->Option α
 | [],_=>none
 | (j,a)::r,i=>match Nat.beq j i with|true=>some a|false=>look r i
inductive Opd where
 | t (n:Nat)
 | c (d:Dat)
 deriving Inhabited
inductive MOp where
 | mov (x:Opd)
 | pick (c a b:Opd)
 | box (x:Opd)
 | alloc (zs:List Dat)
 | build (zs:List Dat) (parts:List (Nat×Nat×Opd))
 | load (agg:Bool) (n:Nat) (a:Opd)
 | store (n:Nat) (a x:Opd)
 | fld (off:Nat) (a:Opd)
 | xQ (x:Opd)
 | idx (k:Nat) (s i:Opd)
 | idxs (s i:Opd)
 | len (str:Bool) (s:Opd)
 | bin (op:BinOp) (x y:Opd)
 | eqb (neg:Bool) (x y:Opd)
 | not (x:Opd)
 | conv (k:IntKind) (x:Opd)
 | call (f:FuncId) (args:List Opd)
 | ext (x:Opd) (i:Nat)
 | rI (k n:Nat) (zs:List Dat) (parts:List (Nat×Opd))
 | app (m:Bool) (k bytes:Nat) (s x:Opd)
 | MA (m:Bool) (k bytes:Nat) (zs:List Dat) (len cap:Opd)
 | sl (k:Nat) (x:Opd) (lo hi:Option Opd)
 | xR (x:Opd) (lo hi:Option Opd)
 | DY (n k:Nat) (a i:Opd)
 | eqn (neg:Bool) (x:Opd)
 | eqi (neg:Bool) (x:Opd)
 | eqs (neg:Bool) (ks:List Nat) (x y:Opd)
 | sub (f:FuncId) (args:List Opd)
 | Kx (x:Opd) (args:List Opd)
 | MB (f:FuncId) (first cap:List Opd)
 | defer (x:Opd) (args:List Opd)
 | panic (x:Opd)
 | Ky (t:TypeId) (x:Opd)
 | tas (t:TypeId) (z:Dat) (x:Opd)
 | copy (k:Nat) (d s:Opd)
 | mm (mx:Bool) (x y:Opd)
 | E6 (kk:Option IntKind)
 | lkp (ok:Bool) (kk:Option IntKind) (z:Dat) (m x:Opd)
 | Kz (kk:Option IntKind) (m x v:Opd)
 | E7 (m:Opd)
 | rng (x:Opd)
 | nxt (x:Opd)
 | E8 (agg:Bool) (n k:Nat) (x i:Opd)
 | b2s (x:Opd)
 | E9 (agg:Bool) (n off:Nat) (x:Opd)
 | sl3 (k:Nat) (x:Opd) (lo:Option Opd) (hi mx:Opd)
 | xT (a:Opd)
 | yY (a x:Opd)
 | Fb (bytes:Nat) (z:Dat) (len cap:Opd)
 | MC (k bytes:Nat) (s x:Opd)
 | Fe (ok:Bool) (kk:Option IntKind) (z:Dat) (m x:Opd)
 | Ff (kk:Option IntKind) (m x v:Opd)
 | yZ (n:Nat) (zs:List Dat) (parts:List (Nat×Nat×Opd))
 | Fg (k n:Nat) (zs:List Dat) (parts:List (Nat×Opd))
 deriving Inhabited
structure MI where
 g:Option (Nat×Bool)
 dst:Option Nat
 op:MOp
 deriving Inhabited
structure DOp where
 mi:MI
 dep:List Nat
 loud:Bool
 deriving Inhabited
inductive bE where
 | skip
 | ops (l:List MI)
 | seq (a b:bE)
 | cond (c:Opd) (x y:bE)
 | block (id:Nat) (c:bE)
 | loop (c:bE)
 | exit (id:Nat)
 | ret
 | draw (fuel:Nat) (l:List DOp)
 deriving Inhabited
inductive az where
 | normal
 | exit (id:Nat)
 | ret
 | panic (d:Dat)
inductive Tree where
 | done (e:az) (st:St)
 | fail
 | test (b:Bool) (y n:Tree)
 | both (y n:Tree)
 | same (x y:Option V) (t:Tree)
 | elem (xs:List (List Dat)) (i:Nat) (k:List Dat->Tree)
 | byte (s:List UInt8) (i:Nat) (k:UInt8->Tree)
 | val (x:Option Dat) (k:Dat->Tree)
 | blk (x:Option Blk) (k:Blk->Tree)
 | A7 (x:Option V) (k:V->Tree)
 | heq (h:Heap) (k:Heap->Tree)
 | call (f:FuncId) (args:List Dat) (k:Dat->Tree)
 | sub (f:FuncId) (vs:List V) (h:Heap) (next:Nat) (k:Res->Heap->Nat->Tree)
 | code (c:bE) (st:St) (k:az->St->Tree)
def Opd.ev (st:St):Opd->Option V
 | .t n=>match look st.regs n with
  | some .undef=>none
  | r=>r
 | .c d=>some (.d d)
def V.cells:V->List V
 | .agg cs=>cs
 | .d (.agg ds)=>ds.map V.d
 | v=>[v]
def V.fld (off:Nat):V->Option V
 | .ptr id o=>some (.ptr id (o+off))
 | .ro cs o=>some (.ro cs (o+off))
 | .kV _ _ _ _=>none
 | .d _=>none
 | .ref _ _ _ _=>none
 | .agg _=>none
 | .func _ _ _=>none
 | .tuple _=>none
 | .hnd _=>none
 | .row _ _=>none
 | .undef=>none
def V.VS:V->Bool
 | .ptr _ _=>true
 | .ro _ _=>true
 | .kV _ _ _ _=>false
 | .d _=>false
 | .ref _ _ _ _=>false
 | .agg _=>false
 | .func _ _ _=>false
 | .tuple _=>false
 | .hnd _=>false
 | .row _ _=>false
 | .undef=>false
def V.isAgg:V->Bool
 | .agg _=>true
 | .d (.agg _)=>true
 | _=>false
def uT:V->Bool
 | .agg _ | .tuple _ | .undef=>false
 | .d x=>match x with
  | .agg _ | .tuple _=>false
  | _=>true
 | _=>true
def V.dat (h:Heap):V->Option Dat
 | .d x=>some x
 | .agg cs=>(go cs).map Dat.agg
 | .ref id _ off len=>match look h id with
  | some (.arr k xs)=>some (.slice k ((xs.drop off).take len) false)
  | _=>none
 | .func f [] []=>some (.func f)
 | _=>none
where
 go:List V->Option (List Dat)
  | []=>some []
  | .d x::r=>match go r with|some l=>some (x::l)|none=>none
  | .ref id _ off len::r=>match look h id,go r with
   | some (.arr k xs),some l=>some (.slice k ((xs.drop off).take len) false::l)
   | _,_=>none
  | .func f [] []::r=>match go r with|some l=>some (.func f::l)|none=>none
  | _=>none
def kK (h:Heap):List V->Option (List Dat)
 | []=>some []
 | v::r=>match v.dat h,kK h r with
  | some x,some l=>some (x::l)
  | _,_=>none
def dT (st:St):List Opd->Option (List V)
 | []=>some []
 | x::r=>match x.ev st,dT st r with
  | some v,some l=>some (v::l)
  | _,_=>none
def V.bX:Dat->V
 | .agg ds=>.agg (ds.map V.d)
 | .tuple ds=>.tuple (ds.map TK)
 | x=>.d x
where
 TK:Dat->V
  | .agg ds=>.agg (ds.map V.d)
  | x=>.d x
def dY (st:St) (b:Blk):St:={ st with heap:=(st.next,b)::st.heap,next:=st.next+1 }
def setAt {α:Type}:List α->Nat->List α->List α
 | l,_,[]=>l
 | l,i,v::vs=>setAt (l.set i v) (i+1) vs
def ei (st:St):List V->List (Nat×Nat×Opd)->Option (List V)
 | cs,[]=>some cs
 | cs,(off,n,x)::r=>match x.ev st with
  | some v=>match Nat.beq v.cells.length n&&Nat.ble (off+n) cs.length with
   | true=>ei st (setAt cs off v.cells) r
   | false=>none
  | none=>none
def rl (agg:Bool) (cs:List V):Option V:=
 match agg,cs with
 | true,cs=>some (.agg cs)
 | false,[v]=>some v
 | false,_=>none
def inR (k:IntKind) (n:Int):Bool:=
 match k with
 | .i8=>decide (-128<=n)&&decide (n<128)
 | .i16=>decide (-32768<=n)&&decide (n<32768)
 | .i32=>decide (-2147483648<=n)&&decide (n<2147483648)
 | .i64=>decide (-9223372036854775808<=n)&&decide (n<9223372036854775808)
 | .u8=>decide (0<=n)&&decide (n<256)
 | .u16=>decide (0<=n)&&decide (n<65536)
 | .u32=>decide (0<=n)&&decide (n<4294967296)
 | .u64=>decide (0<=n)&&decide (n<18446744073709551616)
def fit (k:IntKind) (n:Int) (q:Int->Tree):Tree:=.test (inR k n) (q n) (q (k.wrap n))
def bits (op:BinOp) (k:IntKind) (x y:Int):Option Int:=
 let a:=BitVec.ofInt k.bits x
 let b:=BitVec.ofInt k.bits y
 match op with
 | .and=>some (k.wrap (a&&&b).toNat)
 | .or=>some (k.wrap (a|||b).toNat)
 | .xor=>some (k.wrap (a ^^^ b).toNat)
 | .andNot=>some (k.wrap (a&&&~~~b).toNat)
 | _=>none
def lN (op:BinOp) (k:IntKind) (a b:Int) (q:Dat->Tree):Tree:=
 match op with
 | .add=>fit k (a+b) fun n=>q (.int k n)
 | .sub=>fit k (a - b) fun n=>q (.int k n)
 | .mul=>fit k (a * b) fun n=>q (.int k n)
 | .quo=>.test (decide (b=0)) .fail (fit k (a.tdiv b) fun n=>q (.int k n))
 | .rem=>.test (decide (b=0)) .fail (q (.int k (a.tmod b)))
 | .eql=>q (.bool (decide (a=b)))
 | .neq=>q (.bool (!decide (a=b)))
 | .lss=>q (.bool (decide (a<b)))
 | .leq=>q (.bool (decide (a<=b)))
 | .gtr=>q (.bool (decide (b<a)))
 | .geq=>q (.bool (decide (b<=a)))
 | .shl | .shr=>.fail
 | op=>match bits op k a b with|some n=>q (.int k n)|none=>.fail
def mT (op:BinOp) (s t:List UInt8) (q:Dat->Tree):Tree:=
 match op with
 | .add=>.test (decide (s.length+t.length<4611686018427387904)) (q (.str (s++t))) .fail
 | .eql=>q (.bool (decide (s=t)))
 | .neq=>q (.bool (!decide (s=t)))
 | .lss=>q (.bool (Op.bytesLess s t))
 | .leq=>q (.bool (Op.bytesLess s t||decide (s=t)))
 | .gtr=>q (.bool (!(Op.bytesLess s t||decide (s=t))))
 | .geq=>q (.bool (!Op.bytesLess s t))
 | _=>.fail
def MD (h:Heap) (k:Nat):V->Option (Option Bool×List (List Dat))
 | .d .nil=>some (none,[])
 | .d (.slice k' ys _)=>match Nat.beq k k' with
  | true=>some (none,ys)
  | false=>none
 | .ref id ver off len=>match look h id with
  | some (.arr k' xs)=>match Nat.beq k k' with
   | true=>some (none,(xs.drop off).take len)
   | false=>none
  | some (.mt k' c8 xs)=>match Nat.beq k k' with
   | true=>some (some (Nat.beq ver c8),(xs.drop off).take len)
   | false=>none
  | _=>none
 | _=>none
def Fh (b:Option Bool) (t:Tree):Tree:=
 match b with
 | none=>t
 | some b=>.test b t .fail
def cb (m:Bool) (k:Nat) (xs:List (List Dat)):Blk:=
 match m with
 | true=>.mt k 0 xs
 | false=>.arr k xs
def gy (st:St) (k:Nat):List (List Dat)->List (Nat×Opd)->Option (List (List Dat))
 | xs,[]=>some xs
 | xs,(i,x)::r=>match x.ev st with
  | some v=>match kK st.heap v.cells with
   | some ds=>match Nat.beq ds.length k&&Nat.blt i xs.length&&v.cells.all uT with
    | true=>gy st k (xs.set i ds) r
    | false=>none
   | none=>none
  | none=>none
def bY (st:St) (d:Int):Option Opd->Option Int
 | none=>some d
 | some x=>match x.ev st with
  | some (.d (.int _ n))=>some n
  | _=>none
def TL (neg b:Bool):Bool:=
 match neg with
 | true=>!b
 | false=>b
def eqD:Nat->Dat->Dat->Option Bool
 | 1,.int k a,.int k' b=>match decide (k=k') with
  | true=>some (decide (a=b))
  | false=>none
 | 0,.bool a,.bool b=>some (a == b)
 | 2,.str a,.str b=>some (decide (a=b))
 | _,_,_=>none
def eqL:List Nat->List V->List V->Option Bool
 | [],[],[]=>some true
 | k::ks,.d x::r,.d y::r'=>match eqD k x y,eqL ks r r' with
  | some a,some b=>some (a&&b)
  | _,_=>none
 | _,_,_=>none
def iI {α:Type}:List α->(List α->Tree)->Tree
 | [],k=>k []
 | x::r,k=>iI r fun r'=>k (x::r')
theorem al {α:Type}:∀(l:List α) (k:List α->Tree),iI l k=k l
 | [],_=>rfl
 | x::r,k=>by rw [iI,al r]
def TM (st:St) (k:St->Tree):Tree:=
 match st with
 | ⟨a,b,c,d,e⟩=>k ⟨a,b,c,d,e⟩
theorem DZ (st:St) (k:St->Tree):TM st k=k st:=rfl
def place {α:Type}:List α->Nat->List α->List α
 | cs,_,[]=>cs
 | [],_,_::_=>[]
 | _::cs,0,v::vs=>v::place cs 0 vs
 | c::cs,n+1,v::vs=>c::place cs n (v::vs)
theorem BN {α:Type}:∀(vs:List α) (n:Nat),setAt [] n vs=[]
 | [],n=>rfl
 | v::vs,n=>by rw [setAt];exact BN vs (n+1)
theorem lO {α:Type}:∀(vs:List α) (c:α) (cs:List α) (n:Nat),setAt (c::cs) (n+1) vs=c::setAt cs n vs
 | [],c,cs,n=>rfl
 | v::vs,c,cs,n=>by rw [setAt,setAt,List.set_cons_succ,lO vs]
theorem ay {α:Type}:∀(cs:List α) (n:Nat) (vs:List α),place cs n vs=setAt cs n vs
 | cs,n,[]=>by rw [place,setAt]
 | [],n,v::vs=>by rw [place,BN]
 | c::cs,0,v::vs=>by rw [place,ay cs 0 vs,setAt,List.set_cons_zero,lO]
 | c::cs,n+1,v::vs=>by rw [place,ay cs n (v::vs),lO]
def Fj (st:St):List V->List (Nat×Nat×Opd)->(List V->Tree)->Tree
 | cs,[],k=>k cs
 | cs,(off,n,x)::r,k=>match x.ev st with
  | some v=>match Nat.beq v.cells.length n&&Nat.ble (off+n) cs.length with
   | true=>iI (place cs off v.cells) fun cs'=>Fj st cs' r k
   | false=>.fail
  | none=>.fail
theorem aA {st:St}:∀(ps:List (Nat×Nat×Opd)) (cs:List V) (k:List V->Tree),Fj st cs ps k=match ei st cs ps with|some cs=>k cs|none=>.fail
 | [],cs,k=>rfl
 | (off,n,x)::r,cs,k=>by
  simp only [Fj,ei]
  split
  ·split
   ·rw [al,ay,aA r]
   ·rfl
  ·rfl
def keyOf:Option IntKind->Dat->Option oJ
 | some k,.int k' n=>match decide (k=k') with
  | true=>some (.i n)
  | false=>none
 | none,.str b=>some (.s b)
 | _,_=>none
def A8:List (oJ×Dat)->oJ->Option Dat
 | [],_=>none
 | (k,v)::r,x=>match decide (x=k) with
  | true=>some v
  | false=>A8 r x
def yt:List (oJ×Dat)->oJ->Dat->List (oJ×Dat)
 | [],x,d=>[(x,d)]
 | (k,v)::r,x,d=>match decide (x=k) with
  | true=>(k,d)::r
  | false=>(k,v)::yt r x d
def Fo (ok:Bool) (v:V) (b:Bool):V:=
 match ok with
 | true=>.tuple [v,.d (.bool b)]
 | false=>v
noncomputable def bH (s:List UInt8) (pos:Nat):Nat×Nat:=Classical.choose (⟨_,rfl⟩:∃x,x=Utf8.decode ⟨s.toArray⟩ pos)
theorem BO (s:List UInt8) (pos:Nat):bH s pos=Utf8.decode ⟨s.toArray⟩ pos:=Classical.choose_spec (⟨_,rfl⟩:∃x,x=Utf8.decode ⟨s.toArray⟩ pos)
def bytesOf:List (List Dat)->Option (List UInt8)
 | []=>some []
 | [.int .u8 n]::r=>match bytesOf r with
  | some l=>some (UInt8.ofNat n.toNat::l)
  | none=>none
 | _=>none
def mmI (mx:Bool) (a b:Int):Int:=
 match mx with
 | true=>max a b
 | false=>min a b
noncomputable def step (op:MOp) (st:St) (q:V->St->Tree) (x:az->St->Tree):Tree:=
 match op with
 | .mov x=>match x.ev st with|some v=>q v st|none=>.fail
 | .pick c a b=>match c.ev st with
  | some (.d (.bool t))=>.test t (match a.ev st with|some v=>q v st|none=>.fail) (match b.ev st with|some v=>q v st|none=>.fail)
  | _=>.fail
 | .box x=>match x.ev st with
  | some v=>iI v.cells fun cs=>q (.ptr st.next 0) (dY st (.var cs))
  | none=>.fail
 | .alloc zs=>iI (zs.map V.d) fun cs=>q (.ptr st.next 0) (dY st (.var cs))
 | .build zs ps=>iI (zs.map V.d) fun zs'=>Fj st zs' ps fun cs=>q (.agg cs) st
 | .load agg n a=>match a.ev st with
  | some (.ptr id off)=>match look st.heap id with
   | some (.var cs)=>match Nat.ble (off+n) cs.length with
    | true=>iI ((cs.drop off).take n) fun cs'=>match rl agg cs' with
     | some v=>q v st
     | none=>.fail
    | false=>.fail
   | _=>.fail
  | some (.ro cs off)=>match Nat.ble (off+n) cs.length with
   | true=>iI (((cs.drop off).take n).map V.d) fun cs'=>match rl agg cs' with
    | some v=>q v st
    | none=>.fail
   | false=>.fail
  | some (.kV id ver i cc)=>match look st.heap id with
   | some (.mt k c8 xs)=>.test (Nat.beq ver c8) (.elem xs i fun cs=>match Nat.ble (cc+n) cs.length with
     | true=>iI (((cs.drop cc).take n).map V.d) fun cs'=>match rl agg cs' with
      | some v=>q v st
      | none=>.fail
     | false=>.fail) .fail
   | _=>.fail
  | _=>.fail
 | .store n a x=>match a.ev st,x.ev st with
  | some (.ptr id off),some v=>match look st.heap id with
   | some (.var cs)=>match Nat.beq v.cells.length n&&Nat.ble (off+n) cs.length&&v.cells.all uT with
    | true=>iI (place cs off v.cells) fun cs'=>q .undef { st with heap:=(id,.var cs')::st.heap }
    | false=>.fail
   | _=>.fail
  | some (.kV id ver i cc),some v=>match look st.heap id with
   | some (.mt k c8 xs)=>match kK st.heap v.cells with
    | some ds=>.test (Nat.beq ver c8) (.elem xs i fun cs=>match Nat.beq ds.length n&&Nat.ble (cc+n) cs.length&&v.cells.all uT with
     | true=>q .undef { st with heap:=(id,.mt k ver (xs.set i (setAt cs cc ds)))::st.heap }
     | false=>.fail) .fail
    | none=>.fail
   | _=>.fail
  | _,_=>.fail
 | .fld off a=>match a.ev st with
  | some (.kV id ver i cc)=>match look st.heap id with
   | some (.mt _ c8 _)=>.test (Nat.beq ver c8) (q (.kV id ver i (cc+off)) st) .fail
   | _=>.fail
  | some v=>match v.fld off with
   | some u=>q u st
   | none=>.fail
  | none=>.fail
 | .xQ x=>match x.ev st with
  | some v=>match v.VS with
   | true=>q v st
   | false=>.fail
  | none=>.fail
 | .idx k s i=>match s.ev st,i.ev st with
  | some (.d (.slice k' xs _)),some (.d (.int _ n))=>match Nat.beq k k' with
   | true=>.test (decide (0<=n)&&decide (n<xs.length)) (.elem xs n.toNat fun cs=>q (.ro cs 0) st) .fail
   | false=>.fail
  | some (.ref id ver off len),some (.d (.int _ n))=>match look st.heap id with
   | some (.arr k' xs)=>match Nat.beq k k' with
    | true=>.test (decide (0<=n)&&decide (n<len)) (.elem xs (off+n.toNat) fun cs=>q (.ro cs 0) st) .fail
    | false=>.fail
   | some (.mt k' c8 xs)=>match Nat.beq k k' with
    | true=>.test (Nat.beq ver c8) (.test (decide (0<=n)&&decide (n<len)) (q (.kV id ver (off+n.toNat) 0) st) .fail) .fail
    | false=>.fail
   | _=>.fail
  | some (.row id len),some (.d (.int _ n))=>.test (decide (0<=n)&&decide (n<len)) (q (.ptr id (n.toNat * k)) st) .fail
  | _,_=>.fail
 | .idxs s i=>match s.ev st,i.ev st with
  | some (.d (.str s)),some (.d (.int _ n))=>.test (decide (0<=n)&&decide (n<s.length)) (.byte s n.toNat fun b=>q (.d (.int .u8 b.toNat)) st) .fail
  | _,_=>.fail
 | .len false s=>match s.ev st with
  | some (.d (.slice _ xs _))=>q (.d (.int .i64 xs.length)) st
  | some (.d .nil)=>q (.d (.int .i64 0)) st
  | some (.ref id ver _ len)=>match look st.heap id with
   | some (.arr _ _)=>q (.d (.int .i64 len)) st
   | some (.mt _ c8 _)=>.test (Nat.beq ver c8) (q (.d (.int .i64 len)) st) .fail
   | _=>.fail
  | some (.row _ len)=>q (.d (.int .i64 len)) st
  | _=>.fail
 | .len true s=>match s.ev st with
  | some (.d (.str s))=>q (.d (.int .i64 s.length)) st
  | _=>.fail
 | .bin op x y=>match x.ev st,y.ev st with
  | some (.d (.int k a)),some (.d (.int k' b))=>match decide (k=k') with
   | true=>lN op k a b fun d=>q (.d d) st
   | false=>.fail
  | some (.d (.str a)),some (.d (.str b))=>mT op a b fun d=>q (.d d) st
  | _,_=>.fail
 | .eqb neg x y=>match x.ev st,y.ev st with
  | some (.d (.bool a)),some (.d (.bool b))=>q (.d (.bool (match neg with|true=>a != b|false=>a == b))) st
  | _,_=>.fail
 | .not x=>match x.ev st with
  | some (.d (.bool b))=>q (.d (.bool (!b))) st
  | _=>.fail
 | .conv k x=>match x.ev st with
  | some (.d (.int _ n))=>fit k n fun n=>q (.d (.int k n)) st
  | _=>.fail
 | .call f xs=>match dT st xs with
  | some vs=>match kK st.heap vs with
   | some ds=>.call f ds fun r=>q (V.bX r) st
   | none=>match vs with
    | .ref id ver off len::r=>match look st.heap id,kK st.heap r with
     | some (.mt k c8 xs),some ds=>.test (Nat.beq ver c8) (.call f (.slice k ((xs.drop off).take len) false::ds) fun r=>match r with
      | .bool b=>q (.d (.bool b)) st
      | _=>.fail) .fail
     | _,_=>.fail
    | _=>.fail
  | none=>.fail
 | .ext x i=>match x.ev st with
  | some (.tuple vs)=>match vs[i]? with|some v=>q v st|none=>.fail
  | _=>.fail
 | .rI k n zs ps=>match gy st k (List.replicate n zs) ps with
  | some xs=>q (.d (.slice k xs true)) st
  | none=>.fail
 | .app m k bytes s x=>match s.ev st,x.ev st with
  | some b,some y=>match MD st.heap k y with
   | some (vb,ys)=>Fh vb (match b with
    | .d .nil=>.test (decide (ys.length * bytes<=70368744177664))
      (q (.ref st.next 0 0 ys.length) (dY st (cb m k ys))) .fail
    | .d (.slice k' xs true)=>match Nat.beq k k' with
     | true=>.test xs.isEmpty
       (.test (decide (ys.length * bytes<=70368744177664)) (.test ys.isEmpty (q b st) (q (.ref st.next 0 0 ys.length) (dY st (cb m k ys)))) .fail)
       (.test (decide ((xs.length+ys.length) * bytes<=70368744177664))
        (.test ys.isEmpty (q b st) (q (.ref st.next 0 0 (xs.length+ys.length)) (dY st (cb m k (xs++ys))))) .fail)
     | false=>.fail
    | .ref id ver 0 len=>match look st.heap id with
     | some (.arr k' xs)=>match Nat.beq k k' with
      | true=>.test (decide (len=xs.length)&&decide ((len+ys.length) * bytes<=70368744177664))
        (q (.ref id 0 0 (len+ys.length)) { st with heap:=(id,.arr k (xs++ys))::st.heap }) .fail
      | false=>.fail
     | some (.mt k' c8 xs)=>match Nat.beq k k' with
      | true=>.test (Nat.beq ver c8) (.test (decide ((len+ys.length) * bytes<=70368744177664))
        (q (.ref id (ver+1) 0 (len+ys.length)) { st with heap:=(id,.mt k (ver+1) (xs.take len++ys))::st.heap }) .fail) .fail
      | false=>.fail
     | _=>.fail
    | _=>.fail)
   | none=>.fail
  | _,_=>.fail
 | .MA m k bytes zs l cp=>match l.ev st,cp.ev st with
  | some (.d (.int .i64 n)),some (.d (.int .i64 c))=>.test (decide (0<=n)&&decide (n<=c)&&decide (c * bytes<=70368744177664))
    (q (.ref st.next 0 0 n.toNat) (dY st (cb m k (List.replicate n.toNat zs)))) .fail
  | _,_=>.fail
 | .sl k x lo hi=>match x.ev st with
  | some (.d (.slice k' xs z))=>match Nat.beq k k',bY st 0 lo,bY st xs.length hi with
   | true,some l,some h=>.test (decide (0<=l)&&decide (l<=h)&&decide (h<=xs.length))
     (q (.d (.slice k ((xs.take h.toNat).drop l.toNat) false)) st) .fail
   | _,_,_=>.fail
  | some (.ref id ver off len)=>match look st.heap id,bY st 0 lo,bY st len hi with
   | some (.arr k' xs),some l,some h=>match Nat.beq k k' with
    | true=>.test (decide (0<=l)&&decide (l<=h)&&decide (h<=len)) (q (.ref id ver (off+l.toNat) (h - l).toNat) st) .fail
    | false=>.fail
   | some (.mt k' c8 xs),some l,some h=>match Nat.beq k k' with
    | true=>.test (Nat.beq ver c8) (.test (decide (0<=l)&&decide (l<=h)&&decide (h<=len)) (q (.ref id ver (off+l.toNat) (h - l).toNat) st) .fail) .fail
    | false=>.fail
   | _,_,_=>.fail
  | some (.d .nil)=>match bY st 0 lo,bY st 0 hi with
   | some l,some h=>.test (decide (l=0)&&decide (h=0)) (q (.d .nil) st) .fail
   | _,_=>.fail
  | _=>.fail
 | .xR x lo hi=>match x.ev st with
  | some (.d (.str s))=>match bY st 0 lo,bY st s.length hi with
   | some l,some h=>.test (decide (0<=l)&&decide (l<=h)&&decide (h<=s.length)) (q (.d (.str ((s.take h.toNat).drop l.toNat))) st) .fail
   | _,_=>.fail
  | _=>.fail
 | .DY n k a i=>match a.ev st,i.ev st with
  | some (.ptr id off),some (.d (.int _ j))=>.test (decide (0<=j)&&decide (j<n)) (q (.ptr id (off+j.toNat * k)) st) .fail
  | some (.ro cs off),some (.d (.int _ j))=>.test (decide (0<=j)&&decide (j<n)) (q (.ro cs (off+j.toNat * k)) st) .fail
  | _,_=>.fail
 | .eqn neg x=>match x.ev st with
  | some (.d .nil)=>q (.d (.bool (!neg))) st
  | some (.d (.slice _ xs _))=>.test xs.isEmpty (.both (q (.d (.bool (!neg))) st) (q (.d (.bool neg)) st)) (q (.d (.bool neg)) st)
  | _=>.fail
 | .eqi neg x=>match x.ev st with
  | some (.d .nilIface)=>q (.d (.bool (!neg))) st
  | some (.d (.iface _ _))=>q (.d (.bool neg)) st
  | _=>.fail
 | .eqs neg ks x y=>match x.ev st,y.ev st with
  | some v,some u=>match v.isAgg&&u.isAgg,eqL ks v.cells u.cells with
   | true,some b=>q (.d (.bool (TL neg b))) st
   | _,_=>.fail
  | _,_=>.fail
 | .sub f xs=>match dT st xs with
  | some vs=>.sub f vs st.heap st.next fun r h n=>match r with
   | .val v=>q v { st with heap:=h,next:=n }
   | .pan d=>x (.panic d) { st with heap:=h,next:=n }
  | none=>.fail
 | .Kx g xs=>match g.ev st,dT st xs with
  | some (.d (.func f)),some vs=>.sub f vs st.heap st.next fun r h n=>match r with
   | .val v=>q v { st with heap:=h,next:=n }
   | .pan d=>x (.panic d) { st with heap:=h,next:=n }
  | some (.func f fs cs),some vs=>.sub f (fs++(vs++cs)) st.heap st.next fun r h n=>match r with
   | .val v=>q v { st with heap:=h,next:=n }
   | .pan d=>x (.panic d) { st with heap:=h,next:=n }
  | _,_=>.fail
 | .MB f xs ys=>match dT st xs,dT st ys with
  | some fs,some cs=>q (.func f fs cs) st
  | _,_=>.fail
 | .defer g xs=>match g.ev st,dT st xs with
  | some (.d (.func f)),some vs=>q .undef { st with defers:=.func f vs []::st.defers }
  | some (.func f fs cs),some vs=>q .undef { st with defers:=.func f (fs++vs) cs::st.defers }
  | _,_=>.fail
 | .panic y=>match y.ev st with
  | some (.d (.iface t d))=>x (.panic (.iface t d)) st
  | _=>.fail
 | .Ky t y=>match y.ev st with
  | some v=>match v.dat st.heap with
   | some d=>q (.d (.iface t d)) st
   | none=>.fail
  | none=>.fail
 | .tas t z y=>match y.ev st with
  | some (.d (.iface t' d))=>match Nat.beq t t' with
   | true=>q (.tuple [V.bX d,.d (.bool true)]) st
   | false=>q (.tuple [V.bX z,.d (.bool false)]) st
  | some (.d .nilIface)=>q (.tuple [V.bX z,.d (.bool false)]) st
  | _=>.fail
 | .copy k d s=>match d.ev st,s.ev st with
  | some (.ref id ver off len),some y=>match look st.heap id,MD st.heap k y with
   | some (.mt k' c8 xs),some (vb,ys)=>match Nat.beq k k' with
    | true=>Fh vb (.test (Nat.beq ver c8) (q (.d (.int .i64 ((min len ys.length:Nat):Int)))
      { st with heap:=(id,.mt k ver (setAt xs off (ys.take (min len ys.length))))::st.heap }) .fail)
    | false=>.fail
   | _,_=>.fail
  | _,_=>.fail
 | .mm mx x y=>match x.ev st,y.ev st with
  | some (.d (.int k a)),some (.d (.int k' b))=>match decide (k=k') with
   | true=>q (.d (.int k (mmI mx a b))) st
   | false=>.fail
  | _,_=>.fail
 | .E6 kk=>q (.hnd st.next) (dY st (.map kk []))
 | .lkp ok kk z m y=>match m.ev st,y.ev st with
  | some (.hnd id),some (.d x)=>match look st.heap id with
   | some (.map kk' es)=>match decide (kk=kk'),keyOf kk x with
    | true,some key=>.test (A8 es key).isSome (.val (A8 es key) fun v=>q (Fo ok (V.bX v) true) st) (q (Fo ok (V.bX z) false) st)
    | _,_=>.fail
   | _=>.fail
  | _,_=>.fail
 | .Kz kk m y u=>match m.ev st,y.ev st,u.ev st with
  | some (.hnd id),some (.d x),some v=>match look st.heap id,v.dat st.heap with
   | some (.map kk' es),some d=>match decide (kk=kk'),keyOf kk x with
    | true,some key=>q .undef { st with heap:=(id,.map kk (yt es key d))::st.heap }
    | _,_=>.fail
   | _,_=>.fail
  | _,_,_=>.fail
 | .E7 m=>match m.ev st with
  | some (.hnd id)=>match look st.heap id with
   | some (.map _ es)=>q (.d (.int .i64 es.length)) st
   | _=>.fail
  | _=>.fail
 | .rng x=>match x.ev st with
  | some (.d (.str s))=>q (.hnd st.next) (dY st (.iter s 0))
  | _=>.fail
 | .nxt x=>match x.ev st with
  | some (.hnd id)=>match look st.heap id with
   | some (.iter s pos)=>.test (decide (pos<s.length))
     (q (.tuple [.d (.bool true),.d (.int .i64 pos),.d (.int .i32 (bH s pos).1)]) { st with heap:=(id,.iter s (pos+(bH s pos).2))::st.heap })
     (q (.tuple [.d (.bool false)]) st)
   | _=>.fail
  | _=>.fail
 | .E8 agg n k y i=>match y.ev st,i.ev st with
  | some v,some (.d (.int _ j))=>match v.isAgg with
   | true=>.test (decide (0<=j)&&decide (j<n)) (match Nat.ble (j.toNat * k+k) v.cells.length with
    | true=>iI ((v.cells.drop (j.toNat * k)).take k) fun cs=>match rl agg cs with
     | some u=>q u st
     | none=>.fail
    | false=>.fail) .fail
   | false=>.fail
  | _,_=>.fail
 | .E9 agg n off y=>match y.ev st with
  | some v=>match v.isAgg&&Nat.ble (off+n) v.cells.length with
   | true=>iI ((v.cells.drop off).take n) fun cs=>match rl agg cs with
    | some u=>q u st
    | none=>.fail
   | false=>.fail
  | none=>.fail
 | .sl3 k x lo hi mx=>match x.ev st with
  | some (.d (.slice k' xs z))=>match Nat.beq k k',bY st 0 lo,bY st 0 (some hi),bY st 0 (some mx) with
   | true,some l,some h,some m=>.test (decide (0<=l)&&decide (l<h)&&decide (h=m)&&decide (m<=xs.length))
     (q (.d (.slice k ((xs.take h.toNat).drop l.toNat) true)) st) (.test (decide (l=0)&&decide (h=0)&&decide (m=0)) (q (.d (.slice k [] true)) st) .fail)
   | _,_,_,_=>.fail
  | some (.ref id ver off len)=>match look st.heap id,bY st 0 lo,bY st 0 (some hi),bY st 0 (some mx) with
   | some (.arr k' xs),some l,some h,some m=>match Nat.beq k k' with
    | true=>.test (decide (0<=l)&&decide (l<h)&&decide (h=m)&&decide (m<=len))
      (q (.d (.slice k ((((xs.drop off).take len).take h.toNat).drop l.toNat) true)) st) .fail
    | false=>.fail
   | _,_,_,_=>.fail
  | some (.d .nil)=>match bY st 0 lo,bY st 0 (some hi),bY st 0 (some mx) with
   | some l,some h,some m=>.test (decide (l=0)&&decide (h=0)&&decide (m=0)) (q (.d .nil) st) .fail
   | _,_,_=>.fail
  | _=>.fail
 | .b2s x=>match x.ev st with
  | some (.d (.slice k ys _))=>match Nat.beq k 1,bytesOf ys with
   | true,some bs=>q (.d (.str bs)) st
   | _,_=>.fail
  | _=>.fail
 | .xT a=>match a.ev st with
  | some (.ptr id off)=>match look st.heap id with
   | some (.var cs)=>.A7 (cs[off]?) fun v=>q v st
   | _=>.fail
  | some (.ro cs off)=>match Nat.ble (off+1) cs.length with
   | true=>iI (((cs.drop off).take 1).map V.d) fun cs'=>match rl false cs' with
    | some v=>q v st
    | none=>.fail
   | false=>.fail
  | _=>.fail
 | .yY a x=>match a.ev st,x.ev st with
  | some (.ptr id off),some v=>match look st.heap id,uT v with
   | some (.var cs),true=>.test (decide (off<cs.length)) (q .undef { st with heap:=(id,.var (cs.set off v))::st.heap }) .fail
   | _,_=>.fail
  | _,_=>.fail
 | .Fb bytes z l cp=>match l.ev st,cp.ev st with
  | some (.d (.int .i64 n)),some (.d (.int .i64 c))=>.test (decide (n=c)&&decide (0<=n)&&decide (c * bytes<=70368744177664))
    (.test (decide (0<n)) (q (.row st.next n.toNat) (dY st (.var (List.replicate n.toNat (.d z))))) (q (.d (.slice 1 [] true)) st)) .fail
  | _,_=>.fail
 | .MC k bytes s x=>match s.ev st,x.ev st with
  | some b,some y=>match MD st.heap k y with
   | some (none,ys)=>match b with
    | .d .nil=>.test (decide (ys.length * bytes<=70368744177664))
      (q (.ref st.next 0 0 ys.length) (dY st (.arr k ys))) .fail
    | .d (.slice k' xs true)=>match Nat.beq k k' with
     | true=>.test xs.isEmpty
       (.test (decide (ys.length * bytes<=70368744177664)) (.test ys.isEmpty (q b st) (q (.ref st.next 0 0 ys.length) (dY st (.arr k ys)))) .fail)
       .fail
     | false=>.fail
    | .ref id ver 0 len=>.blk (look st.heap id) fun b=>match b with
     | .arr k' xs=>match Nat.beq k k' with
      | true=>.test (decide (len=xs.length)&&decide ((len+ys.length) * bytes<=70368744177664))
        (.heq ((id,.arr k (xs++ys))::st.heap) fun h=>q (.ref id 0 0 (len+ys.length)) { st with heap:=h }) .fail
      | false=>.fail
     | _=>.fail
    | _=>.fail
   | _=>.fail
  | _,_=>.fail
 | .Fe ok kk z m y=>match m.ev st,y.ev st with
  | some (.hnd id),some (.d x)=>.blk (look st.heap id) fun b=>match b with
   | .map kk' es=>match decide (kk=kk'),keyOf kk x with
    | true,some key=>.test (A8 es key).isSome (.val (A8 es key) fun v=>q (Fo ok (V.bX v) true) st) (q (Fo ok (V.bX z) false) st)
    | _,_=>.fail
   | _=>.fail
  | _,_=>.fail
 | .Ff kk m y u=>match m.ev st,y.ev st,u.ev st with
  | some (.hnd id),some (.d x),some v=>match v.dat st.heap with
   | some d=>.blk (look st.heap id) fun b=>match b with
    | .map kk' es=>match decide (kk=kk'),keyOf kk x with
     | true,some key=>.heq ((id,.map kk (yt es key d))::st.heap) fun h=>q .undef { st with heap:=h }
     | _,_=>.fail
    | _=>.fail
   | _=>.fail
  | _,_,_=>.fail
 | .Fg k n zs ps=>match gy st k (List.replicate n zs) ps with
  | some xs=>q (.ref st.next 0 0 n) (dY st (cb true k xs))
  | none=>.fail
 | .yZ n zs ps=>iI (zs.map V.d) fun cs=>Fj st cs ps fun cs=>q (.row st.next n) (dY st (.var cs))
def put (dst:Option Nat) (v:V) (st:St):St:=
 match dst with
 | some d=>{ st with regs:=(d,v)::st.regs }
 | none=>st
def fB (dst:Option Nat) (mode:Option (Nat×Bool×Bool)):Option (Nat×Bool×Bool):=
 match dst,mode with
 | some d,some (t,want,hold)=>match Nat.beq d t with
  | true=>none
  | false=>some (t,want,hold)
 | _,m=>m
def decided (mode:Option (Nat×Bool×Bool)) (t:Nat) (want:Bool):Option Bool:=
 match mode with
 | some (t',want',hold)=>match Nat.beq t t'&&(want == want') with
  | true=>some hold
  | false=>none
 | none=>none
abbrev Mode:=Option (Nat×Bool×Bool)
abbrev Go0:=St->(az->St->Tree)->Tree
abbrev Go1:=Mode->Go0
def TN:Go1:=fun _ st q=>q .normal st
noncomputable def Qk (i:MI) (r:List MI) (ih:Go1):Go1:=fun mode st q=>TM st fun st=>match i.g with
  | none=>step i.op st (fun v st'=>ih none (put i.dst v st') q) q
  | some (t,want)=>
   match decided mode t want with
   | some true=>step i.op st (fun v st'=>ih (fB i.dst mode) (put i.dst v st') q) q
   | some false=>ih (fB i.dst mode) (put i.dst (.tuple []) st) q
   | none=>match look st.regs t with
    | some (.d (.bool b))=>.test (b == want)
      (step i.op (put (some t) (.d (.bool want)) st) (fun v st'=>ih (fB i.dst (some (t,want,true))) (put i.dst v st') q) q)
      (ih (fB i.dst (some (t,want,false))) (put i.dst (.tuple []) (put (some t) (.d (.bool (!want))) st)) q)
    | some (.tuple [])=>ih (fB i.dst mode) (put i.dst (.tuple []) st) q
    | _=>.fail
noncomputable def cN (l:List MI):Go1:=List.rec (motive:=fun _=>Go1) TN Qk l
theorem rJ (mode:Mode) (st:St) (q:az->St->Tree):cN [] mode st q=q .normal st:=rfl
theorem qw (i:MI) (r:List MI) (mode:Mode) (st:St) (q:az->St->Tree):cN (i::r) mode st q=TM st fun st=>match i.g with
  | none=>step i.op st (fun v st'=>cN r none (put i.dst v st') q) q
  | some (t,want)=>
   match decided mode t want with
   | some true=>step i.op st (fun v st'=>cN r (fB i.dst mode) (put i.dst v st') q) q
   | some false=>cN r (fB i.dst mode) (put i.dst (.tuple []) st) q
   | none=>match look st.regs t with
    | some (.d (.bool b))=>.test (b == want)
      (step i.op (put (some t) (.d (.bool want)) st) (fun v st'=>cN r (fB i.dst (some (t,want,true))) (put i.dst v st') q) q)
      (cN r (fB i.dst (some (t,want,false))) (put i.dst (.tuple []) (put (some t) (.d (.bool (!want))) st)) q)
    | some (.tuple [])=>cN r (fB i.dst mode) (put i.dst (.tuple []) st) q
    | _=>.fail:=rfl
def TO:Go0:=fun st q=>q .normal st
noncomputable def VT (l:List MI):Go0:=fun st q=>cN l none st q
def VU (_ _:bE) (a b:Go0):Go0:=fun st q=>a st fun e st'=>match e with
  | .normal=>b st' q
  | e=>q e st'
def TP (c:Opd) (_ _:bE) (x y:Go0):Go0:=fun st q=>match c.ev st with
  | some (.d (.bool b))=>.test b (x st q) (y st q)
  | _=>.fail
def Ql (id:Nat) (_:bE) (c:Go0):Go0:=fun st q=>c st fun e st'=>match e with
  | .exit j=>match Nat.beq j id with
   | true=>q .normal st'
   | false=>q (.exit j) st'
  | e=>q e st'
def TQ (c:bE) (_:Go0):Go0:=fun st q=>.code (.loop c) st q
def TR (id:Nat):Go0:=fun st q=>q (.exit id) st
def VX:Go0:=fun st q=>q .ret st
def TS (m:Nat) (l:List DOp):Go0:=fun st q=>.code (.draw m l) st q
noncomputable def exec (m:bE):Go0:=bE.rec (motive:=fun _=>Go0) TO VT VU TP Ql TQ TR VX TS m
theorem pL (st:St) (q:az->St->Tree):exec .skip st q=q .normal st:=rfl
theorem rK (l:List MI) (st:St) (q:az->St->Tree):exec (.ops l) st q=cN l none st q:=rfl
theorem rL (a b:bE) (st:St) (q:az->St->Tree):exec (.seq a b) st q=exec a st fun e st'=>match e with
  | .normal=>exec b st' q
  | e=>q e st':=rfl
theorem pM (c:Opd) (x y:bE) (st:St) (q:az->St->Tree):exec (.cond c x y) st q=match c.ev st with
  | some (.d (.bool b))=>.test b (exec x st q) (exec y st q)
  | _=>.fail:=rfl
theorem nB (id:Nat) (c:bE) (st:St) (q:az->St->Tree):exec (.block id c) st q=exec c st fun e st'=>match e with
  | .exit j=>match Nat.beq j id with
   | true=>q .normal st'
   | false=>q (.exit j) st'
  | e=>q e st':=rfl
theorem pN (c:bE) (st:St) (q:az->St->Tree):exec (.loop c) st q = .code (.loop c) st q:=rfl
theorem pO (id:Nat) (st:St) (q:az->St->Tree):exec (.exit id) st q=q (.exit id) st:=rfl
theorem rM (st:St) (q:az->St->Tree):exec .ret st q=q .ret st:=rfl
theorem pP (m:Nat) (l:List DOp) (st:St) (q:az->St->Tree):exec (.draw m l) st q = .code (.draw m l) st q:=rfl
def pR:List Nat->Nat->Bool
 | [],_=>false
 | x::r,i=>match Nat.beq x i with
  | true=>true
  | false=>pR r i
def qx:List Nat->List Nat->List Nat->Bool
 | [],_,_=>true
 | j::r,E,D=>(pR E j||pR D j)&&qx r E D
def waited (all:List DOp):List Nat->Nat->Bool
 | [],_=>false
 | n::D,i=>(match all[n]? with|some o=>pR o.dep i|none=>false)||waited all D i
noncomputable def pC (all:List DOp) (D:List Nat):List DOp->Nat->List Nat->St->(List Nat->St->Tree)->Tree
 | [],_,E,st,q=>q E st
 | o::r,i,E,st,q=>match o.loud with
  | true=>pC all D r (i+1) E st q
  | false=>match pR E i with
   | true=>match waited all D i with
    | true=>pC all D r (i+1) E st q
    | false=>cN [o.mi] none st fun e st'=>match e with
     | .normal=>.same (match o.mi.dst with|some d=>look st'.regs d|none=>none) (match o.mi.dst with|some d=>look st.regs d|none=>none) (pC all D r (i+1) E st q)
     | _=>.fail
   | false=>match qx o.dep E D with
    | true=>cN [o.mi] none st fun e st'=>match e with
     | .normal=>pC all D r (i+1) (i::E) st' q
     | _=>.fail
    | false=>pC all D r (i+1) E st q
def Jj:List Tree->Tree
 | []=>.fail
 | [t]=>t
 | t::r=>.both t (Jj r)
def xU (E D:List Nat):List DOp->Nat->(Nat->DOp->Tree)->List Tree
 | [],_,_=>[]
 | o::r,i,f=>match o.loud&&!pR D i&&qx o.dep E D with
  | true=>f i o::xU E D r (i+1) f
  | false=>xU E D r (i+1) f
def y5 (D:List Nat):List DOp->Nat->Bool
 | [],_=>true
 | o::r,i=>(!o.loud||pR D i)&&y5 D r (i+1)
def Jk (t:Nat) (o:DOp):Bool:=
 match o.mi.dst with
 | some d=>Nat.beq d t
 | none=>false
def keepR (all:List DOp):jm->jm
 | []=>[]
 | (t,v)::r=>match all.any (Jk t) with
  | true=>keepR all r
  | false=>(t,v)::keepR all r
noncomputable def tI (all:List DOp) (r0:jm):Nat->List Nat->List Nat->St->(az->St->Tree)->Tree
 | 0,E,D,st,q=>pC all D all 0 E st fun E' st'=>match y5 D all 0 with
  | true=>q .normal st'
  | false=>.fail
 | m+1,E,D,st,q=>pC all D all 0 E st fun E' st'=>Jj (xU E' D all 0 fun i o=>cN [o.mi] none st' fun e uU=>match e with
  | .normal=>tI all r0 m E' (i::D) uU q
  | e=>q e { uU with regs:=r0 })
end Uw
namespace Uw
open Go
structure Pol where
 mt:Bool
 sub:List Nat
def y6:Value->Option Dat
 | .bool b=>some (.bool b)
 | .int k n=>some (.int k n)
 | .string s=>some (.str s.data.toList)
 | .slice none 0 0=>some .nil
 | .nilFunc=>some .nilFunc
 | .nilIface=>some .nilIface
 | .pointer none=>some .nilPtr
 | .map none=>some .qu
 | .func (.func f) x y=>match x.toList,y.toList with
  | [],[]=>some (.func f)
  | _,_=>none
 | _=>none
def jn:List Value->Option (List Dat)
 | []=>some []
 | v::r=>match y6 v,jn r with
  | some x,some l=>some (x::l)
  | _,_=>none
def ao:Operand->Option Opd
 | .tmp t=>some (.t t)
 | .const v=>(y6 v).map Opd.c
 | .func f=>some (.c (.func f))
 | .global _=>none
def dF:List Operand->Option (List Opd)
 | []=>some []
 | x::r=>match ao x,dF r with
  | some v,some l=>some (v::l)
  | _,_=>none
def jo:Option Operand->Option (Option Opd)
 | none=>some none
 | some z=>(ao z).map some
def nC:List (Nat×Operand)->Option (List (Nat×Opd))
 | []=>some []
 | (i,x)::r=>match ao x,nC r with
  | some y,some l=>some ((i,y)::l)
  | _,_=>none
def jq (P:Program) (t:TypeId):Option Bool:=
 match P.underlying t with
 | some (.struct _)|some (.array _ _)=>some true
 | some _=>some false
 | none=>none
def sizeT (P:Program) (t:TypeId):Option Nat:=(P.info? t).map (·.size)
def lX (P:Program) (t:TypeId):Option (List Dat):=
 match P.info? t with
 | some i=>match i.zero with
  | some v=>jn v.cells.toList
  | none=>none
 | none=>none
def BP (P:Program) (t:TypeId):Option (TypeId×Nat×Nat×List Dat):=
 match P.underlying t with
 | some (.slice e)=>match P.info? e with
  | some i=>match i.zero with
   | some z=>match jn z.cells.toList with
    | some zs=>match Nat.beq z.cells.size i.size&&Nat.beq zs.length i.size&&Nat.blt 0 i.size&&Nat.blt 0 i.bytes with
     | true=>some (e,i.size,i.bytes,zs)
     | false=>none
    | none=>none
   | none=>none
  | none=>none
 | _=>none
def BQ (P:Program) (t:TypeId):Bool:=
 match P.underlying t with
 | some (.interface _)=>false
 | some _=>true
 | none=>false
def zeroV (P:Program) (t:TypeId):Option Dat:=
 match P.info? t with
 | some i=>match i.zero with
  | some (.agg vs)=>(jn vs.toList).map Dat.agg
  | some v=>y6 v
  | none=>none
 | none=>none
def Bj (P:Program) (t:TypeId):Option (TypeId×TypeId×Option IntKind×Dat):=
 match P.underlying t with
 | some (.map k e)=>match P.underlying k,zeroV P e with
  | some (.int ik),some z=>some (k,e,some ik,z)
  | some .string,some z=>some (k,e,none,z)
  | _,_=>none
 | _=>none
def TT (P:Program) (t:TypeId):Bool:=
 match P.underlying t with
 | some (.slice _)|some (.map _ _)=>true
 | _=>false
def Pol.fam (pol:Pol):Bool:=pol.sub.contains 1000000
def y7 (P:Program) (t:TypeId):Option Nat:=
 match P.underlying t with
 | some .bool=>some 0
 | some (.int _)=>some 1
 | some .string=>some 2
 | _=>none
def Fp (P:Program):Nat->List Field->Option (List Nat)
 | _,[]=>some []
 | i,f::r=>match y7 P f.type,Nat.beq f.offset i&&(f.name != "_"),Fp P (i+1) r with
  | some k,true,some l=>some (k::l)
  | _,_,_=>none
def ME (P:Program) (t:TypeId):Option (List Nat):=
 match P.underlying t with
 | some (.struct fs)=>match !P.stoodInHeld t&&!P.eqGuardType P.depth t with
  | true=>Fp P 0 fs.toList
  | false=>none
 | _=>none
def H2:Operand->Bool
 | .const (.slice none _ _)=>true
 | _=>false
def H3:Operand->Bool
 | .const .nilIface=>true
 | _=>false
def H4 (P:Program) (t:TypeId):Option (Nat->Option (Nat×Nat)):=
 match P.info? t,P.underlying t with
 | some _,some (.array _ e)=>match P.info? e with
  | some ie=>some fun i=>some (i * ie.size,ie.size)
  | none=>none
 | some _,some (.struct fs)=>match fs.toList.mapM (fun f=>(P.info? f.type).map fun i=>(f.offset,i.size)) with
  | some places=>some fun i=>places.toArray[i]?
  | none=>none
 | _,_=>none
def iZ (place:Nat->Option (Nat×Nat)):List (Nat×Operand)->Option (List (Nat×Nat×Opd))
 | []=>some []
 | (i,x)::r=>match place i,ao x,iZ place r with
  | some (off,n),some o,some l=>some ((off,n,o)::l)
  | _,_,_=>none
def D1 (P:Program) (pol:Pol) (o:Oper):Option MOp:=
 match o.op with
 | .move x | .assign x=>(ao x).map MOp.mov
 | .pick c a b=>match ao c,ao a,ao b with
  | some c,some a,some b=>some (.pick c a b)
  | _,_,_=>none
 | .box _ x=>(ao x).map MOp.box
 | .alloc t=>(lX P t).map MOp.alloc
 | .build t ps=>match H4 P t,lX P t with
  | some place,some zs=>(iZ place ps.toList).map (MOp.build zs)
  | _,_=>none
 | .load t a=>match jq P t,sizeT P t,ao a with
  | some g,some n,some a=>match pol.fam&&TT P t&&!g&&Nat.beq n 1 with
   | true=>some (.xT a)
   | false=>some (.load g n a)
  | _,_,_=>none
 | .store t a x=>match sizeT P t,ao a,ao x with
  | some n,some a,some x=>match pol.fam&&TT P t&&Nat.beq n 1 with
   | true=>some (.yY a x)
   | false=>some (.store n a x)
  | _,_,_=>none
 | .nilCheck x=>(ao x).map MOp.xQ
 | .fieldAddr s x f=>match P.underlying s with
  | some (.struct fs)=>match fs[f]? with
   | some fd=>match sizeT P fd.type,ao x with
    | some (_+1),some x=>some (.fld fd.offset x)
    | _,_=>none
   | none=>none
  | _=>none
 | .indexAddr t x i=>match P.underlying t with
  | some (.slice e)=>match sizeT P e,ao x,ao i with
   | some k,some x,some i=>some (.idx k x i)
   | _,_,_=>none
  | some (.array m e)=>match sizeT P e,ao x,ao i with
   | some k,some x,some i=>some (.DY m k x i)
   | _,_,_=>none
  | _=>none
 | .index t x i=>match P.underlying t with
  | some .string=>match ao x,ao i with
   | some x,some i=>some (.idxs x i)
   | _,_=>none
  | some (.array m e)=>match jq P e,sizeT P e,ao x,ao i with
   | some g,some k,some x,some i=>some (.E8 g m k x i)
   | _,_,_,_=>none
  | _=>none
 | .makeMap t none=>match Bj P t with
  | some (_,_,kk,_)=>some (.E6 kk)
  | none=>none
 | .lookup t x i ok=>match Bj P t,ao x,ao i with
  | some (_,_,kk,z),some x,some i=>match pol.fam with
   | true=>some (.Fe ok kk z x i)
   | false=>some (.lkp ok kk z x i)
  | _,_,_=>none
 | .mapUpdate t m x v=>match Bj P t,ao m,ao x,ao v with
  | some (_,_,kk,_),some m,some x,some v=>match pol.fam with
   | true=>some (.Ff kk m x v)
   | false=>some (.Kz kk m x v)
  | _,_,_,_=>none
 | .insert t m x v=>match Bj P t,ao m,ao x,ao v with
  | some (_,_,kk,_),some m,some x,some v=>some (.Kz kk m x v)
  | _,_,_,_=>none
 | .range t x=>match P.underlying t with
  | some .string=>(ao x).map MOp.rng
  | _=>none
 | .next x true=>(ao x).map MOp.nxt
 | .binOp op t x0 y0 _=>match P.underlying t,ao x0,ao y0 with
  | some .bool,some x,some y=>match op with
   | .eql=>some (.eqb false x y)
   | .neq=>some (.eqb true x y)
   | _=>none
  | some (.int _),some x,some y=>some (.bin op x y)
  | some .string,some x,some y=>some (.bin op x y)
  | some (.slice _),some x,some _=>match H2 y0,op with
   | true,.eql=>some (.eqn false x)
   | true,.neq=>some (.eqn true x)
   | _,_=>none
  | some (.interface _),some x,some _=>match H3 y0,op with
   | true,.eql=>some (.eqi false x)
   | true,.neq=>some (.eqi true x)
   | _,_=>none
  | some (.struct _),some x,some y=>match ME P t,op with
   | some n,.eql=>some (.eqs false n x y)
   | some n,.neq=>some (.eqs true n x y)
   | _,_=>none
  | _,_,_=>none
 | .unOp .not _ x=>(ao x).map MOp.not
 | .convert s d x=>match P.underlying s,P.underlying d with
  | some (.int _),some (.int k)=>(ao x).map (MOp.conv k)
  | some (.slice e),some .string=>match P.underlying e with
   | some (.int .u8)=>(ao x).map MOp.b2s
   | _=>none
  | _,_=>none
 | .call c=>match c.callee with
  | .builtin .len=>match c.args.toList,c.argTypes.toList with
   | [x],[t]=>match P.underlying t with
    | some (.slice _)=>(ao x).map (MOp.len false)
    | some .string=>(ao x).map (MOp.len true)
    | some (.map _ _)=>(ao x).map MOp.E7
    | _=>none
   | _,_=>none
  | .builtin .min=>match c.args.toList with
   | [x,y]=>match ao x,ao y with
    | some x,some y=>some (.mm false x y)
    | _,_=>none
   | _=>none
  | .builtin .max=>match c.args.toList with
   | [x,y]=>match ao x,ao y with
    | some x,some y=>some (.mm true x y)
    | _,_=>none
   | _=>none
  | .builtin .append=>match c.args.toList,c.argTypes.toList with
   | [x,y],[t,t']=>match Nat.beq t t',BP P t,ao x,ao y with
    | true,some (_,k,bytes,_),some x,some y=>match pol.fam&&!pol.mt with
     | true=>some (.MC k bytes x y)
     | false=>some (.app pol.mt k bytes x y)
    | _,_,_,_=>none
   | _,_=>none
  | .value (.func f)=>match P.funcs[f]? with
   | some fn=>match fn.body.isSome&&!(fn.name == "runtime.NumGoroutine") with
    | true=>match pol.sub.contains f with
     | true=>(dF c.args.toList).map (MOp.sub f)
     | false=>(dF c.args.toList).map (MOp.call f)
    | false=>none
   | none=>none
  | .value (.tmp t)=>(dF c.args.toList).map (MOp.Kx (.t t))
  | .builtin .copy=>match c.args.toList,c.argTypes.toList with
   | [x,y],[t,t']=>match BP P t,P.underlying t',ao x,ao y with
    | some (_,k,_,_),some (.slice _),some x,some y=>some (.copy k x y)
    | _,_,_,_=>none
   | _,_=>none
  | _=>none
 | .makeFunc (.func f) fs cs=>match dF fs.toList,dF cs.toList with
  | some fs,some cs=>some (.MB f fs cs)
  | _,_=>none
 | .defer c=>match c.callee with
  | .value (.tmp t)=>(dF c.args.toList).map (MOp.defer (.t t))
  | .value (.func f)=>(dF c.args.toList).map (MOp.defer (.c (.func f)))
  | _=>none
 | .panic x=>(ao x).map MOp.panic
 | .makeInterface t x=>match BQ P t,ao x with
  | true,some x=>some (.Ky t x)
  | _,_=>none
 | .typeAssert x _ t true=>match BQ P t,zeroV P t,ao x with
  | true,some z,some x=>some (.tas t z x)
  | _,_,_=>none
 | .extract x i=>(ao x).map (MOp.ext · i)
 | .field s x f=>match P.underlying s with
  | some (.struct fs)=>match fs[f]? with
   | some fd=>match jq P fd.type,sizeT P fd.type,ao x with
    | some g,some k,some x=>some (.E9 g k fd.offset x)
    | _,_,_=>none
   | none=>none
  | _=>none
 | .buildSlice t len ps=>match BP P t,nC ps.toList with
  | some (_,k,_,zs),some qs=>match Nat.ble (len * k) 16777216 with
   | true=>match pol.sub.contains 1000001&&Nat.blt 0 len with
    | true=>some (.yZ len ((List.replicate len zs).flatten) (qs.map fun y=>(y.1 * k,k,y.2)))
    | false=>match pol.sub.contains 1000002 with
     | true=>some (.Fg k len zs qs)
     | false=>some (.rI k len zs qs)
   | false=>none
  | _,_=>none
 | .makeSlice t l cp=>match BP P t,ao l,ao cp with
  | some (e,k,bytes,zs),some l,some cp=>match pol.fam&&TT P e&&Nat.beq k 1,zs with
   | true,[z]=>some (.Fb bytes z l cp)
   | _,_=>some (.MA pol.mt k bytes zs l cp)
  | _,_,_=>none
 | .slice t x lo hi none=>match P.underlying t with
  | some .string=>match ao x,jo lo,jo hi with
   | some x,some lo,some hi=>some (.xR x lo hi)
   | _,_,_=>none
  | some (.slice e)=>match sizeT P e,ao x,jo lo,jo hi with
   | some k,some x,some lo,some hi=>some (.sl k x lo hi)
   | _,_,_,_=>none
  | _=>none
 | .slice t x lo (some hi) (some mx)=>match P.underlying t with
  | some (.slice e)=>match sizeT P e,ao x,jo lo,ao hi,ao mx with
   | some k,some x,some lo,some hi,some mx=>some (.sl3 k x lo hi mx)
   | _,_,_,_,_=>none
  | _=>none
 | _=>none
def y8 (ops:List Oper):Option (Nat×Bool)->Option (Option (Nat×Bool))
 | none=>some none
 | some (j,b)=>match ops[j]? with
  | some o=>match o.dst with
   | some d=>some (some (d,b))
   | none=>none
  | none=>none
def da (P:Program) (n:Nat) (pol:Pol) (ops:List Oper):List Oper->Option (List MI)
 | []=>some []
 | o::r=>match y8 ops o.guard,D1 P pol o,da P n pol ops r,(match o.dst with|some d=>Nat.blt d n|none=>true) with
  | some g,some m,some l,true=>some (⟨g,o.dst,m⟩::l)
  | _,_,_,_=>none
def gA:MOp->Bool
 | .mov _ | .pick _ _ _ | .build _ _ | .load _ _ _ | .fld _ _ | .xQ _ | .idx _ _ _ | .idxs _ _ | .len _ _ | .bin _ _ _ | .eqb _ _ _ | .not _ | .conv _ _ | .call _ _ | .ext _ _ | .rI _ _ _ _ | .sl _ _ _ _ | .xR _ _ _ | .DY _ _ _ _ | .eqs _ _ _ _ | .mm _ _ _ | .lkp _ _ _ _ _ | .E7 _ | .E8 _ _ _ _ _ | .b2s _ | .E9 _ _ _ _ | .sl3 _ _ _ _ _ | .xT _ | .Fe _ _ _ _ _=>true
 | _=>false
def Opd.tmps:Opd->List Nat
 | .t n=>[n]
 | .c _=>[]
def ip:List Opd->List Nat
 | []=>[]
 | x::r=>x.tmps++ip r
def nq:List (Nat×Nat×Opd)->List Nat
 | []=>[]
 | (_,_,x)::r=>x.tmps++nq r
def wC:List (Nat×Opd)->List Nat
 | []=>[]
 | (_,x)::r=>x.tmps++wC r
def kL:Option Opd->List Nat
 | none=>[]
 | some x=>x.tmps
def MOp.tmps:MOp->List Nat
 | .mov x=>x.tmps
 | .pick c a b=>c.tmps++a.tmps++b.tmps
 | .build _ ps=>nq ps
 | .load _ _ a=>a.tmps
 | .fld _ a=>a.tmps
 | .xQ x=>x.tmps
 | .idx _ s i=>s.tmps++i.tmps
 | .idxs s i=>s.tmps++i.tmps
 | .len _ s=>s.tmps
 | .bin _ x y=>x.tmps++y.tmps
 | .eqb _ x y=>x.tmps++y.tmps
 | .not x=>x.tmps
 | .conv _ x=>x.tmps
 | .call _ xs=>ip xs
 | .ext x _=>x.tmps
 | .rI _ _ _ ps=>wC ps
 | .sl _ x lo hi=>x.tmps++kL lo++kL hi
 | .xR x lo hi=>x.tmps++kL lo++kL hi
 | .DY _ _ x i=>x.tmps++i.tmps
 | .eqs _ _ x y=>x.tmps++y.tmps
 | .eqn _ x=>x.tmps
 | .eqi _ x=>x.tmps
 | .sub _ xs=>ip xs
 | .Kx x xs=>x.tmps++ip xs
 | .MB _ xs ys=>ip xs++ip ys
 | .defer x xs=>x.tmps++ip xs
 | .panic x=>x.tmps
 | .Ky _ x=>x.tmps
 | .tas _ _ x=>x.tmps
 | .copy _ x y=>x.tmps++y.tmps
 | .box x=>x.tmps
 | .alloc _=>[]
 | .store _ a x=>a.tmps++x.tmps
 | .app _ _ _ s x=>s.tmps++x.tmps
 | .MA _ _ _ _ l c=>l.tmps++c.tmps
 | .mm _ x y=>x.tmps++y.tmps
 | .E6 _=>[]
 | .lkp _ _ _ m x=>m.tmps++x.tmps
 | .Kz _ m x v=>m.tmps++x.tmps++v.tmps
 | .E7 m=>m.tmps
 | .rng x=>x.tmps
 | .nxt x=>x.tmps
 | .E8 _ _ _ x i=>x.tmps++i.tmps
 | .b2s x=>x.tmps
 | .E9 _ _ _ x=>x.tmps
 | .sl3 _ x lo hi mx=>x.tmps++kL lo++hi.tmps++mx.tmps
 | .xT a=>a.tmps
 | .yY a x=>a.tmps++x.tmps
 | .Fb _ _ l c=>l.tmps++c.tmps
 | .MC _ _ s x=>s.tmps++x.tmps
 | .Fe _ _ _ m x=>m.tmps++x.tmps
 | .Ff _ m x v=>m.tmps++x.tmps++v.tmps
 | .yZ _ _ ps=>nq ps
 | .Fg _ _ _ ps=>wC ps
def MI.tmps (i:MI):List Nat:=(match i.g with|some (t,_)=>[t]|none=>[])++i.op.tmps
def canon (h m:Nat):Array Bool:=((List.range m).map fun i=>decide (i<h)).toArray
def S4 (ops:List Oper) (mi:List MI) (i j:Nat):Bool:=
 match mi[i]?,mi[j]? with
 | some a,some b=>match b.dst with
  | some t=>(a.dst != some t)&&(!(a.tmps.contains t)||(if j<i then Region.waitsFor .any ops.toArray i j else Region.waitsFor .any ops.toArray j i))
  | none=>true
 | _,_=>false
def Fq (ops:List Oper) (mi:List MI) (h:Nat):Bool:=
 decide (h<=ops.length)&&((mi.take h).all fun i=>gA i.op)&&
 ((List.range h).all fun i=>match ops[i]? with|some o=>o.after.all (fun e=>!Region.binds .any e||decide (e.on<i))|none=>false)&&
 ((List.range h).all fun i=>(List.range h).all fun j=>(i == j)||S4 ops mi i j)&&
 (h == ops.length||(Region.sinkB .any ops.toArray h&&Region.chainB .any ops.toArray h))&&
 Region.seqB .any ops.toArray (ops.length - h) h (canon h ops.length)
def headLen (l:List MI):Nat:=(l.takeWhile fun i=>gA i.op).length
def D2 (o:Oper):List Nat:=(o.after.toList.filter fun e=>Region.binds .any e).map (·.on)
def dx:List Oper->List MI->List DOp
 | o::r,i::r'=>⟨i,D2 o,!gA i.op⟩::dx r r'
 | _,_=>[]
def S5 (mi:List DOp) (i j:Nat):Bool:=
 match mi[i]?,mi[j]? with
 | some a,some b=>match b.mi.dst with
  | some t=>(a.mi.dst != some t)&&(!(a.mi.tmps.contains t)||(decide (j<i)&&pR a.dep j))
  | none=>true
 | _,_=>false
def MF (o:DOp):Bool:=
 match o.mi.dst with
 | some t=>!(o.mi.tmps.contains t)
 | none=>true
def y9 (l:List DOp):Bool:=
 ((List.range l.length).all fun i=>match l[i]? with|some o=>o.dep.all (fun j=>decide (j<i))&&(!o.loud||o.mi.g.isNone)&&MF o|none=>false)&&
 ((List.range l.length).all fun i=>(List.range l.length).all fun j=>(i == j)||S5 l i j)
def sU:List DOp->Nat
 | []=>0
 | o::r=>match o.loud with
  | true=>sU r+1
  | false=>sU r
def comp (P:Program) (n:Nat) (pol:Pol):Code->Option bE
 | .skip=>some .skip
 | .region _ ops false=>(da P n pol ops.toList ops.toList).map bE.ops
 | .region _ ops true=>match P.follows .mixedOrders,da P n pol ops.toList ops.toList with
  | true,some l=>match Fq ops.toList l (headLen l) with
   | true=>some (.ops l)
   | false=>match y9 (dx ops.toList l) with
    | true=>some (.draw (sU (dx ops.toList l)) (dx ops.toList l))
    | false=>none
  | _,_=>none
 | .seq a b=>match comp P n pol a,comp P n pol b with
  | some a,some b=>some (.seq a b)
  | _,_=>none
 | .cond c x y=>match ao c,comp P n pol x,comp P n pol y with
  | some c,some x,some y=>some (.cond c x y)
  | _,_,_=>none
 | .block id c=>(comp P n pol c).map (bE.block id)
 | .loop c=>(comp P n pol c).map bE.loop
 | .exit id=>some (.exit id)
 | .ret=>some .ret
 | .scope c=>(comp P n pol c).map (bE.seq .skip)
 | .label _=>some .skip
 | _=>none
end Uw
namespace Uw
open Go Go.RowKit
def one:Value->Bool
 | .agg _ | .tuple _=>false
 | _=>true
mutual
def aG (w:World) (J:Nat->Nat->Prop):Dat->Value->Prop
 | .bool b,v=>v = .bool b
 | .int k n,v=>v = .int k n
 | .str s,v=>v = .string ⟨s.toArray⟩
 | .nil,v=>v = .slice none 0 0
 | .slice k xs z,v=>((∃x:Option Addr,v = .slice x 0 0/\(z=true->True))/\xs=[])\/∃b o cap,v = .slice (some ⟨b,o,none⟩) xs.length cap/\xs.length<=cap/\(z=true->cap=xs.length)/\bU w J b k o xs
 | .agg cs,v=>∃vs:List Value,v = .agg vs.toArray/\aQ w J cs vs
 | .func f,v=>v = .func (.func f) #[] #[]
 | .nilFunc,v=>v = .nilFunc
 | .nilIface,v=>v = .nilIface
 | .nilPtr,v=>v = .pointer none
 | .qu,v=>v = .map none
 | .iface t d,v=>∃u,v = .iface t u/\aG w J d u
 | .tuple ds,v=>∃vs:List Value,v = .tuple vs.toArray/\aQ w J ds vs
def aQ (w:World) (J:Nat->Nat->Prop):List Dat->List Value->Prop
 | [],vs=>vs=[]
 | d::ds,vs=>∃v vs',vs=v::vs'/\aG w J d v/\aQ w J ds vs'
def du (w:World) (J:Nat->Nat->Prop) (b:Nat):Nat->List Dat->Prop
 | _,[]=>True
 | o,d::ds=>(∃v,w.cell? ⟨b,o,none⟩=some v/\J b o/\one v=true/\aG w J d v)/\du w J b (o+1) ds
def bU (w:World) (J:Nat->Nat->Prop) (b k:Nat):Nat->List (List Dat)->Prop
 | _,[]=>True
 | o,c::cs=>c.length=k/\du w J b o c/\bU w J b k (o+k) cs
end
def Keeps (w w' : World) (J J' : Nat->Nat->Prop):Prop:=∀b o,J b o->J' b o/\w'.cell? ⟨b,o,none⟩=w.cell? ⟨b,o,none⟩
mutual
theorem aG.keep {w w' : World} {J J' : Nat->Nat->Prop} (h:Keeps w w' J J'):∀(d:Dat) (v:Value),aG w J d v->aG w' J' d v
 | .bool b,v,r=>r
 | .int k n,v,r=>r
 | .str s,v,r=>r
 | .nil,v,r=>r
 | .slice k xs z,v,.inl r=>.inl r
 | .slice k xs z,v,.inr ⟨b,o,cap,h1,h2,h3,h4⟩=>.inr ⟨b,o,cap,h1,h2,h3,bU.keep h b k o xs h4⟩
 | .agg cs,v,⟨vs,h1,h2⟩=>⟨vs,h1,aQ.keep h cs vs h2⟩
 | .func f,v,r=>r
 | .nilFunc,v,r=>r
 | .nilIface,v,r=>r
 | .nilPtr,v,r=>r
 | .qu,v,r=>r
 | .iface t d,v,⟨u,h1,h2⟩=>⟨u,h1,aG.keep h d u h2⟩
 | .tuple ds,v,⟨vs,h1,h2⟩=>⟨vs,h1,aQ.keep h ds vs h2⟩
theorem aQ.keep {w w' : World} {J J' : Nat->Nat->Prop} (h:Keeps w w' J J'):∀(ds:List Dat) (vs:List Value),aQ w J ds vs->aQ w' J' ds vs
 | [],vs,r=>r
 | d::ds,vs,⟨v,vs',h1,h2,h3⟩=>⟨v,vs',h1,aG.keep h d v h2,aQ.keep h ds vs' h3⟩
theorem du.keep {w w' : World} {J J' : Nat->Nat->Prop} (h:Keeps w w' J J') (b:Nat):∀(o:Nat) (ds:List Dat),du w J b o ds->du w' J' b o ds
 | o,[],_=>trivial
 | o,d::ds,⟨⟨v,h1,h2,h5,h3⟩,h4⟩=>⟨⟨v,by rw [(h b o h2).2];exact h1,(h b o h2).1,h5,aG.keep h d v h3⟩,du.keep h b (o+1) ds h4⟩
theorem bU.keep {w w' : World} {J J' : Nat->Nat->Prop} (h:Keeps w w' J J') (b k:Nat):∀(o:Nat) (cs:List (List Dat)),bU w J b k o cs->bU w' J' b k o cs
 | o,[],_=>trivial
 | o,c::cs,⟨h1,h2,h3⟩=>⟨h1,du.keep h b o c h2,bU.keep h b k (o+k) cs h3⟩
end
class Glob where
 n:Nat
 p:World->Prop
 ok:∀(w w' : World),(∀k,k<n->w'.heap[k]? = w.heap[k]?)->p w->p w'
def GOk [Glob] (B:Nat) (w:World):Prop:=B<=w.heap.size/\Glob.n<=B/\Glob.p w
variable [Glob]
def Ret (P:Program) (f:FuncId) (args:List Dat) (r:Dat):Prop:=
 ∀(w:World) (J:Nat->Nat->Prop) (vs:List Value),GOk w.heap.size w->aQ w J args vs->
  Calls P f vs.toArray w fun e w'=>∃v,e = .returned v/\aG w' (fun b o=>J b o\/(w.heap.size<=b/\b<w'.heap.size)) r v/\Below w.heap.size w w'
structure Pl where
 gb:Nat
 cap:Nat
def Ph (p:Pl):Blk->Prop
 | .arr _ _=>0<p.cap
 | .mt _ _ _=>0<p.cap
 | _=>True
structure JX where
 J:Nat->Nat->Prop
 X:Nat->Prop
structure Cx where
 B:Nat
 J0:JX
 heap:Heap
 pl:Nat->Pl
 w:World
def Cx.Old (c:Cx) (b:Nat):Prop:=b<c.B\/c.J0.X b
def Imm (c:Cx) (b o:Nat):Prop:=
 (c.Old b/\c.J0.J b o)\/(¬c.Old b/\b<c.w.heap.size/\∀id blk,look c.heap id=some blk->Ph (c.pl id) blk->(c.pl id).gb=b->∃k xs,blk = .arr k xs/\o<xs.length * k)
def kB (c:Cx) (id ver off len:Nat) (gv:Value):Option Blk->Prop
 | some (.arr k xs)=>off+len<=xs.length/\((gv = .slice none 0 0/\len=0/\(off=xs.length->(c.pl id).cap=off))\/∃b o cap,gv = .slice (some ⟨b,o,none⟩) len cap/\len<=cap/\bU c.w (Imm c) b k o ((xs.drop off).take len)/\
   (off+len=xs.length->cap=(c.pl id).cap - off/\(off<(c.pl id).cap->b=(c.pl id).gb/\o=off * k)))
 | some (.mt k c8 xs)=>ver<=c8/\(∃x l cp,gv = .slice x l cp)/\(ver=c8->off+len<=xs.length/\((gv = .slice none 0 0/\len=0/\off=0/\(c.pl id).cap=0)\/∃b o,gv = .slice (some ⟨b,o,none⟩) len ((c.pl id).cap - off)/\(off<(c.pl id).cap->b=(c.pl id).gb/\o=off * k)))
 | _=>False
def jr (c:Cx) (id ver i cc:Nat) (gv:Value):Option Blk->Prop
 | some (.mt k c8 xs)=>ver<=c8/\(∃x,gv = .pointer x)/\(ver=c8->i<xs.length/\gv = .pointer (some ⟨(c.pl id).gb,i * k+cc,none⟩))
 | _=>False
def jt:Option IntKind->oJ->Value->Prop
 | some k,.i n,v=>v = .int k n
 | none,.s b,v=>v = .string ⟨b.toArray⟩
 | _,_,_=>False
def pS (w:World) (J:Nat->Nat->Prop) (kk:Option IntKind):List (oJ×Dat)->List MapEntry->Prop
 | [],ms=>ms=[]
 | (k,d)::r,ms=>∃m ms',ms=m::ms'/\jt kk k m.key/\aG w J d m.val/\pS w J kk r ms'
theorem pS.keep {w w' : World} {J J' : Nat->Nat->Prop} (h:Keeps w w' J J') {kk:Option IntKind}:∀(es:List (oJ×Dat)) (ms:List MapEntry),pS w J kk es ms->pS w' J' kk es ms
 | [],ms,r=>r
 | (k,d)::es,ms,⟨m,ms',h1,h2,h3,h4⟩=>⟨m,ms',h1,h2,aG.keep h d _ h3,pS.keep h es ms' h4⟩
def eP (c:Cx) (id:Nat) (gv:Value):Option Blk->Prop
 | some (.map _ _)=>gv = .map (some (c.pl id).gb)
 | some (.iter _ _)=>gv = .pointer (some ⟨(c.pl id).gb,0,none⟩)
 | _=>False
mutual
def aD (c:Cx):V->Value->Prop
 | .d x,v=>aG c.w (Imm c) x v
 | .ptr id off,v=>(∃cs,look c.heap id=some (.var cs))/\v = .pointer (some ⟨(c.pl id).gb,off,none⟩)
 | .ro cs off,v=>∃b o,v = .pointer (some ⟨b,o+off,none⟩)/\du c.w (Imm c) b o cs
 | .kV id ver i cc,v=>jr c id ver i cc v (look c.heap id)
 | .ref id ver off len,v=>kB c id ver off len v (look c.heap id)
 | .agg cs,v=>∃vs:List Value,v = .agg vs.toArray/\aC c cs vs
 | .func f first cap,v=>∃fs vs:List Value,v = .func (.func f) fs.toArray vs.toArray/\aC c first fs/\aC c cap vs
 | .tuple ds,v=>∃vs:List Value,v = .tuple vs.toArray/\aC c ds vs
 | .hnd id,v=>eP c id v (look c.heap id)
 | .row id len,v=>(∃cs,look c.heap id=some (.var cs))/\v = .slice (some ⟨(c.pl id).gb,0,none⟩) len len/\0<len
 | .undef,_=>True
def aC (c:Cx):List V->List Value->Prop
 | [],vs=>vs=[]
 | d::ds,vs=>∃v vs',vs=v::vs'/\aD c d v/\aC c ds vs'
end
def cj (c:Cx) (id:Nat):Blk->Prop
 | .var cs=>∃vs e,c.w.heap[(c.pl id).gb]? = some (.cells vs e (0,0))/\aC c cs vs.toList
 | .arr k xs=>xs.length<=(c.pl id).cap/\(0<(c.pl id).cap->∃vs e,c.w.heap[(c.pl id).gb]? = some (.cells vs e (0,0))/\vs.size=(c.pl id).cap * k/\bU c.w (Imm c) (c.pl id).gb k 0 xs)
 | .mt k _ xs=>xs.length<=(c.pl id).cap/\(∀x∈xs,x.length=k)/\(0<(c.pl id).cap->∃vs e,c.w.heap[(c.pl id).gb]? = some (.cells vs e (0,0))/\vs.size=(c.pl id).cap * k/\
   aQ c.w (Imm c) xs.flatten (vs.toList.take (xs.length * k))/\∀v∈vs.toList.take (xs.length * k),one v=true)
 | .iter s pos=>c.w.heap[(c.pl id).gb]? = some (.stringIter ⟨s.toArray⟩ pos)
 | .map kk es=>∃ms clock,c.w.heap[(c.pl id).gb]? = some (.map ms clock)/\pS c.w (Imm c) kk es ms.toList
def mU (c:Cx) (r:jm) (t:Array Value):Prop:=∀i v,look r i=some v->aD c v (t.getD i undef)
def bZ (c:Cx):List V->List Deferred->Prop
 | [],ds=>ds=[]
 | v::vs,ds=>∃d ds' f first cap fs cs,ds=d::ds'/\v = .func f first cap/\d={ target:=.fn (.func f) cs.toArray,args:=fs.toArray }/\aC c first fs/\aC c cap cs/\bZ c vs ds'
structure cz (c:Cx) (w0:World) (next:Nat):Prop where
 below:Below c.B w0 c.w
 other:∀b,c.J0.X b->b<w0.heap.size/\c.w.heap[b]? = w0.heap[b]?
 kd:GOk c.B w0
 blk:∀id b,look c.heap id=some b->cj c id b
 lt:∀id b,look c.heap id=some b->id<next
 ge:∀id b,look c.heap id=some b->Ph (c.pl id) b->¬c.Old (c.pl id).gb
 inj:∀id id' b b',look c.heap id=some b->look c.heap id' = some b'->Ph (c.pl id) b->Ph (c.pl id') b'->(c.pl id).gb=(c.pl id').gb->id=id'
def cD (p p' : Pl):Blk->Blk->Prop
 | .var _,.var _=>p.gb=p'.gb
 | .arr k xs,.arr k' xs'=>k=k'/\(∃ys,xs' = xs++ys)/\(xs' = xs->p' = p)
 | .mt k ver xs,.mt k' c8 xs'=>k=k'/\ver<=c8/\(c8 = ver->p' = p/\xs'.length=xs.length)
 | .iter _ _,.iter _ _=>p.gb=p'.gb
 | .map kk _,.map kk' _=>kk=kk'/\p.gb=p'.gb
 | _,_=>False
structure qy (K:Nat) (c c' : Cx):Prop where
 keeps:Keeps c.w c'.w (Imm c) (Imm c')
 blks:∀id b,id<K->look c.heap id=some b->∃b',look c'.heap id=some b'/\cD (c.pl id) (c'.pl id) b b'
structure Evo (c c' : Cx):Prop where
 keeps:Keeps c.w c'.w (Imm c) (Imm c')
 blks:∀id b,look c.heap id=some b->∃b',look c'.heap id=some b'/\cD (c.pl id) (c'.pl id) b b'
theorem Evo.toK {c c' : Cx} (h:Evo c c') (K:Nat):qy K c c':=⟨h.keeps,fun id b _ hb=>h.blks id b hb⟩
structure Fr where
 K:Nat
 p:Cx->Prop
 ok:∀c c',qy K c c'->p c->p c'
def Fr.none:Fr:=⟨0,fun _=>True,fun _ _ _ _=>trivial⟩
structure Rel (c:Cx) (w0:World) (n:Nat) (gs:Fr) (st:St) (a:Act):Prop where
 heap:c.heap=st.heap
 hrel:cz c w0 st.next
 size:a.tmps.size=n
 regs:mU c st.regs a.tmps
 frames:gs.p c
 nD:gs.K<=st.base
 base:st.base<=st.next
 defers:bZ c st.defers a.defers
theorem kB.evo {K:Nat} {c c' : Cx} (h:qy K c c') {id ver off len:Nat} (hK:id<K) {gv:Value} (r:kB c id ver off len gv (look c.heap id)):kB c' id ver off len gv (look c'.heap id):=by
 cases hl:look c.heap id with
 | none=>rw [hl] at r;exact r.elim
 | some b=>
  obtain ⟨b',hb',he⟩:=h.blks id b hK hl;rw [hl] at r;rw [hb']
  cases b with
  | var cs=>exact r.elim
  | iter s p=>exact r.elim
  | map kk es=>exact r.elim
  | arr k xs=>
   cases b' with
   | arr k' xs'=>
    obtain ⟨rfl,⟨ys,rfl⟩,hp⟩:=he;obtain ⟨h1,r⟩:=r;have hys:off+len=(xs++ys).length->ys=[]:=by
     intro hlen;simp at hlen;exact YZ (by omega)
    refine ⟨by simp;omega,?_⟩
    rcases r with ⟨r1,r2,r3⟩|⟨b0,o,cap,h2,h3,h4,h5⟩
    ·refine .inl ⟨r1,r2,fun hlen=>?_⟩
     have:=hys (by omega);subst this;simp at hp hlen;rw [hp];exact r3 hlen
    ·refine .inr ⟨b0,o,cap,h2,h3,?_,?_⟩
     ·have:((xs++ys).drop off).take len=(xs.drop off).take len:=by
       rw [List.drop_append_of_le_length (by omega),List.take_append_of_le_length (by simp;omega)]
      rw [this];exact bU.keep h.keeps _ _ _ _ h4
     ·intro hlen
      have:=hys hlen;subst this;simp at hp;rw [hp];exact h5 (by simpa using hlen)
   | _=>exact he.elim
  | mt k v xs=>
   cases b' with
   | mt k' v' xs'=>
    obtain ⟨rfl,hle,hp⟩:=he;obtain ⟨r1,r3,r2⟩:=r;refine ⟨Zn r1 hle,r3,fun hv=>?_⟩;have hvv:v' = v:=by omega
    obtain ⟨hp1,hp2⟩:=hp hvv;rw [hp1,hp2];exact r2 (by omega)
   | _=>exact he.elim
theorem jr.evo {K:Nat} {c c' : Cx} (h:qy K c c') {id ver i cc:Nat} (hK:id<K) {gv:Value} (r:jr c id ver i cc gv (look c.heap id)):jr c' id ver i cc gv (look c'.heap id):=by
 cases hl:look c.heap id with
 | none=>rw [hl] at r;exact r.elim
 | some b=>
  obtain ⟨b',hb',he⟩:=h.blks id b hK hl;rw [hl] at r;rw [hb']
  cases b with
  | var cs=>exact r.elim
  | iter s p=>exact r.elim
  | map kk es=>exact r.elim
  | arr k xs=>exact r.elim
  | mt k v xs=>
   cases b' with
   | mt k' v' xs'=>
    obtain ⟨rfl,hle,hp⟩:=he;obtain ⟨r1,r3,r2⟩:=r;refine ⟨Zn r1 hle,r3,fun hv=>?_⟩;have hvv:v' = v:=by omega
    obtain ⟨hp1,hp2⟩:=hp hvv;rw [hp1,hp2];exact r2 (by omega)
   | _=>exact he.elim
theorem eP.evo {K:Nat} {c c' : Cx} (h:qy K c c') {id:Nat} (hK:id<K) {gv:Value} (r:eP c id gv (look c.heap id)):eP c' id gv (look c'.heap id):=by
 cases hl:look c.heap id with
 | none=>rw [hl] at r;exact r.elim
 | some b=>
  obtain ⟨b',hb',he⟩:=h.blks id b hK hl;rw [hl] at r;rw [hb']
  cases b with
  | iter s p=>
   cases b' with
   | iter s' p'=>simp only [cD] at he;simp only [eP] at r ⊢;rw [<- he];exact r
   | _=>exact he.elim
  | map kk es=>
   cases b' with
   | map kk' es'=>simp only [cD] at he;simp only [eP] at r ⊢;rw [<- he.2];exact r
   | _=>exact he.elim
  | _=>exact r.elim
theorem cD.MG {p p' : Pl} {b b' : Blk} (h:cD p p' b b') (hv:∃cs,b = .var cs):p.gb=p'.gb/\∃cs,b' = .var cs:=by
 obtain ⟨cs,rfl⟩:=hv
 cases b' with
 | var cs'=>exact ⟨h,cs',rfl⟩
 | _=>exact h.elim
mutual
def V.lt (K:Nat):V->Prop
 | .ptr id _=>id<K
 | .kV id _ _ _=>id<K
 | .ref id _ _ _=>id<K
 | .agg cs=>ltL K cs
 | .func _ fs cs=>ltL K fs/\ltL K cs
 | .tuple cs=>ltL K cs
 | .d _=>True
 | .ro _ _=>True
 | .hnd id=>id<K
 | .row id _=>id<K
 | .undef=>True
def ltL (K:Nat):List V->Prop
 | []=>True
 | v::r=>v.lt K/\ltL K r
end
mutual
theorem aD.lt {c:Cx} {K:Nat} (h:∀id b,look c.heap id=some b->id<K):∀(x:V) (v:Value),aD c x v->x.lt K
 | .d x,v,r=>trivial
 | .ptr id off,v,⟨⟨cs,h1⟩,_⟩=>h id _ h1
 | .ro cs off,v,_=>trivial
 | .kV id ver i cc,v,r=>by
  simp only [aD] at r
  cases hl:look c.heap id with
  | none=>rw [hl] at r;exact r.elim
  | some b=>exact h id b hl
 | .ref id ver off len,v,r=>by
  simp only [aD] at r
  cases hl:look c.heap id with
  | none=>rw [hl] at r;exact r.elim
  | some b=>exact h id b hl
 | .agg cs,v,⟨vs,h1,h2⟩=>aC.lt h cs vs h2
 | .func f fs cs,v,⟨us,vs,h1,h2,h3⟩=>⟨aC.lt h fs us h2,aC.lt h cs vs h3⟩
 | .tuple ds,v,⟨vs,h1,h2⟩=>aC.lt h ds vs h2
 | .hnd id,v,r=>by
  simp only [aD] at r
  cases hl:look c.heap id with
  | none=>rw [hl] at r;exact r.elim
  | some b=>exact h id b hl
 | .row id len,v,⟨⟨cs,h1⟩,_⟩=>h id _ h1
 | .undef,v,r=>trivial
theorem aC.lt {c:Cx} {K:Nat} (h:∀id b,look c.heap id=some b->id<K):∀(xs:List V) (vs:List Value),aC c xs vs->ltL K xs
 | [],vs,r=>trivial
 | d::ds,vs,⟨v,vs',h1,h2,h3⟩=>⟨aD.lt h d v h2,aC.lt h ds vs' h3⟩
end
mutual
theorem aD.ue {K:Nat} {c c' : Cx} (h:qy K c c'):∀(x:V) (v:Value),x.lt K->aD c x v->aD c' x v
 | .d x,v,_,r=>aG.keep h.keeps x v r
 | .ptr id off,v,hK,r=>by
  obtain ⟨⟨cs,h1⟩,h2⟩:=r;obtain ⟨b',hb',he⟩:=h.blks id _ hK h1;obtain ⟨hg,cs',rfl⟩:=he.MG ⟨cs,rfl⟩;exact ⟨⟨cs',hb'⟩,by rw [<- hg];exact h2⟩
 | .ro cs off,v,_,⟨b,o,h1,h2⟩=>⟨b,o,h1,du.keep h.keeps _ _ _ h2⟩
 | .kV id ver i cc,v,hK,r=>jr.evo h hK r
 | .ref id ver off len,v,hK,r=>kB.evo h hK r
 | .agg cs,v,hK,⟨vs,h1,h2⟩=>⟨vs,h1,aC.ue h cs vs hK h2⟩
 | .func f fs cap,v,hK,⟨us,vs,h1,h2,h3⟩=>⟨us,vs,h1,aC.ue h fs us hK.1 h2,aC.ue h cap vs hK.2 h3⟩
 | .tuple ds,v,hK,⟨vs,h1,h2⟩=>⟨vs,h1,aC.ue h ds vs hK h2⟩
 | .hnd id,v,hK,r=>eP.evo h hK r
 | .row id len,v,hK,r=>by
  obtain ⟨⟨cs,h1⟩,h2,h3⟩:=r;obtain ⟨b',hb',he⟩:=h.blks id _ hK h1;obtain ⟨hg,cs',rfl⟩:=he.MG ⟨cs,rfl⟩;exact ⟨⟨cs',hb'⟩,by rw [<- hg];exact h2,h3⟩
 | .undef,v,_,r=>r
theorem aC.ue {K:Nat} {c c' : Cx} (h:qy K c c'):∀(xs:List V) (vs:List Value),ltL K xs->aC c xs vs->aC c' xs vs
 | [],vs,_,r=>r
 | d::ds,vs,hK,⟨v,vs',h1,h2,h3⟩=>⟨v,vs',h1,aD.ue h d v hK.1 h2,aC.ue h ds vs' hK.2 h3⟩
end
def BR:Heap->Nat
 | []=>0
 | (i,_)::r=>max (i+1) (BR r)
theorem za:∀(h:Heap) (id:Nat) (b:Blk),look h id=some b->id<BR h
 | [],id,b,hh=>by simp [look] at hh
 | (i,x)::r,id,b,hh=>by
  rw [look] at hh
  split at hh
  ·rename_i hb
   have:=wt hb;subst this;simp only [BR];omega
  ·have:=za r id b hh
   simp only [BR];omega
theorem aD.evo {c c' : Cx} (h:Evo c c') (x:V) (v:Value) (r:aD c x v):aD c' x v:=aD.ue (h.toK (BR c.heap)) x v (aD.lt (za c.heap) x v r) r
theorem aC.evo {c c' : Cx} (h:Evo c c') (xs:List V) (vs:List Value) (r:aC c xs vs):aC c' xs vs:=aC.ue (h.toK (BR c.heap)) xs vs (aC.lt (za c.heap) xs vs r) r
theorem mU.evo {c c' : Cx} (h:Evo c c') {r:jm} {t:Array Value} (hr:mU c r t):mU c' r t:=fun i v hv=>aD.evo h v _ (hr i v hv)
theorem bZ.evo {c c' : Cx} (h:Evo c c'):∀{vs:List V} {ds:List Deferred},bZ c vs ds->bZ c' vs ds
 | [],_,r=>r
 | v::vs,ds,⟨d,ds',f,first,cap,fs,cs,h1,h2,h3,h4,h6,h5⟩=>⟨d,ds',f,first,cap,fs,cs,h1,h2,h3,aC.evo h _ _ h4,aC.evo h _ _ h6,bZ.evo h h5⟩
theorem cj.evo {c c' : Cx} (h:Evo c c') {id:Nat} {b:Blk} (hp:c'.pl id=c.pl id) (hw:Ph (c.pl id) b->c'.w.heap[(c.pl id).gb]? = c.w.heap[(c.pl id).gb]?) (r:cj c id b):cj c' id b:=by
 cases b with
 | var cs=>obtain ⟨vs,e,h1,h2⟩:=r;exact ⟨vs,e,by rw [hp,hw trivial];exact h1,aC.evo h _ _ h2⟩
 | arr k xs=>
  obtain ⟨h0,r⟩:=r;refine ⟨by rw [hp];exact h0,fun hc=>?_⟩;rw [hp] at hc ⊢;obtain ⟨vs,e,h1,h2,h4⟩:=r hc;exact ⟨vs,e,by rw [hw hc];exact h1,h2,bU.keep h.keeps _ _ _ _ h4⟩
 | mt k v xs=>
  obtain ⟨h0,h4,r⟩:=r;refine ⟨by rw [hp];exact h0,h4,fun hc=>?_⟩;rw [hp] at hc ⊢;obtain ⟨vs,e,h1,h2,h5,h6⟩:=r hc;exact ⟨vs,e,by rw [hw hc];exact h1,h2,aQ.keep h.keeps _ _ h5,h6⟩
 | iter s p=>unfold cj at *;rw [hp,hw trivial];exact r
 | map kk es=>obtain ⟨ms,k,h1,h2⟩:=r;exact ⟨ms,k,by rw [hp,hw trivial];exact h1,pS.keep h.keeps _ _ h2⟩
theorem Rel.evo {c c' : Cx} {w0:World} {n:Nat} {gs:Fr} {st st' : St} {a:Act} (r:Rel c w0 n gs st a) (h:Evo c c') (hh:c'.heap=st'.heap) (hH:cz c' w0 st'.next)
  (h1:st'.regs=st.regs) (h2:st'.base=st.base) (h3:st'.defers=st.defers) (h4:st.next<=st'.next):Rel c' w0 n gs st' a:=
 ⟨hh,hH,r.size,by rw [h1];exact r.regs.evo h,gs.ok c c' (h.toK _) r.frames,by rw [h2];exact r.nD,by rw [h2];exact Zn r.base h4,by rw [h3];exact r.defers.evo h⟩
end Uw
namespace Uw
open Go
def uV (o:Oper):Bool:=match o.op with
 | .defer _=>false
 | _=>true
def noD:Code->Bool
 | .region _ ops _=>ops.toList.all uV
 | .seq x y=>noD x&&noD y
 | .cond _ x y=>noD x&&noD y
 | .block _ x=>noD x
 | .loop x=>noD x
 | .scope _=>false
 | _=>true
structure WPS (P:Program) where
 W:Code->(Exit->Act->World->Prop)->Act->World->Prop
 dfr:Bool
 mono:∀{c Q Q' a w},W c Q a w->(∀e a w,Q e a w->Q' e a w)->W c Q' a w
 skip:∀{Q:Exit->Act->World->Prop} {a w},Q .normal a w->W .skip Q a w
 exit:∀{id:Nat} {Q:Exit->Act->World->Prop} {a w},Q (.exit id) a w->W (.exit id) Q a w
 ret:∀{Q:Exit->Act->World->Prop} {a w},Q .ret a w->W .ret Q a w
 seq:∀{x y Q a w},W x (Exit.then (W y Q) Q) a w->W (.seq x y) Q a w
 cond:∀{c:Operand} {x y:Code} {Q:Exit->Act->World->Prop} {a:Act} {w:World} {t:Bool},a.eval c = .bool t->(t=true->W x Q a w)->(t=false->W y Q a w)->W (.cond c x y) Q a w
 block:∀{id c Q a w},W c (Exit.inBlock id Q) a w->W (.block id c) Q a w
 loop:∀{c:Code} {Q:Exit->Act->World->Prop} {a:Act} {w:World} (I:Act->World->Prop) (μ:Act->World->Nat),I a w->(∀a w,I a w->W c (Exit.then (fun a' w'=>I a' w'/\μ a' w' < μ a w) Q) a w)->W (.loop c) Q a w
 list:∀{id:Nat} {ops:Array Oper} {Q:Exit->Act->World->Prop} {a w},¬LetsOut Q->(dfr=true\/ops.toList.all uV=true)->wpList P ops Q ops.toList a w->W (.region id ops false) Q a w
 scope:dfr=true->∀{c Q a w},W c (Exit.noGoto Q) a w->W (.scope c) Q a w
 label:∀{l:Nat} {Q:Exit->Act->World->Prop} {a w},Q .normal a w->W (.label l) Q a w
 any:∀{id:Nat} {ops:Array Oper} {Q:Exit->Act->World->Prop} {a:Act} {w:World},P.follows .mixedOrders=true->¬LetsOut Q->(dfr=true\/ops.toList.all uV=true)->
  wpAny P .any ops Q ops.size (Array.replicate ops.size false) a { w with drawn:=w.drawn+1 }->W (.region id ops true) Q a w
def plainW (P:Program):WPS P where
 W:=fun c Q a w=>Code.wp P c Q a w
 dfr:=true
 mono:=fun h hq=>Go.wp_mono h hq
 skip:=wp_skip
 exit:=wp_exit
 ret:=wp_ret
 seq:=wp_seq
 cond:=fun hc h1 h2=>wp_cond_split hc h1 h2
 block:=wp_block
 loop:=fun I μ h0 h=>wp_loop I μ h0 h
 list:=fun _ _ h=>wp_region_list h
 scope:=fun _ {_ _ _ _} h=>wp_scope_straight h
 label:=fun h=>wp_label h
 any:=fun hm _ _ h=>wp_region_any hm h
section
variable {P : Program} {Q : Exit -> Act -> World -> Prop} {n l : Nat} {ops : Array Oper}
theorem VY {o:Oper} {a:Act} {w:World} {K:Act->World->Prop} (hd:uV o=true) (h:o.wp P a w K Q):o.wpIn (Fence.wide.inRound l) n P a w K Q:=by
 refine ⟨fun _ _=>trivial,?_⟩;rw [Oper.semAt_eq _ _ _ (fun c hc=>by simp [uV,hc] at hd)];unfold Oper.wp at h;generalize (execOp a.eval o).run P w=r at h
 cases r with
 | ok nx w'=>
  cases nx with
  | enter f args=>
   rw [Oper.upon_enter] at h;rw [Oper.uponIn_enter];refine ⟨fun hh=>by simp [Fence.inRound,Fence.wide] at hh,CallsIn.inRound l ((callsIn_wide (n:=n - 1)).2 (Calls.mono h ?_))⟩;intro e w'' hh
   cases e<;>exact hh
  | row rw args=>
   refine ⟨fun hh=>by simp [Fence.inRound,Fence.wide] at hh,?_⟩;intro c cs _;obtain ⟨v,w'',h1,h2⟩:=h c cs;exact ⟨v,w'',h1,stepsIn_wide.2 h2⟩
  | value v=>exact h
  | skip=>exact h
  | defer d=>exact h
  | _=>exact h.elim
 | halt s w'=>
  cases s<;>first|exact h|exact h.elim
theorem MH (hno:¬LetsOut Q):∀(L:List Oper),(∀o∈L,uV o=true)->∀(a:Act) (w:World),wpList P ops Q L a w->wpListIn (Fence.wide.inRound l) n P ops Q L a w
 | [],_,a,w,h=>h
 | o::L,hd,a,w,h=>by
  simp only [wpList] at h;simp only [wpListIn]
  split at h
  ·rename_i hw
   rw [if_pos hw]
   rcases h with h|h
   ·exact VY (hd o (by simp)) (Oper.wp_mono (fun a w h=>MH hno L (fun o ho=>hd o (by simp [ho])) a w h) h)
   ·exact (hno h.2).elim
  ·rename_i hw
   rw [if_neg hw];exact ⟨fun _ _=>trivial,MH hno L (fun o ho=>hd o (by simp [ho])) _ _ h⟩
theorem Jl {md:Region.Mode} (hno:¬LetsOut Q) (hd:∀o∈ops.toList,uV o=true):∀(fuel:Nat) (L:Array Bool) (a:Act) (w:World),wpAny P md ops Q fuel L a w->wpAnyIn (Fence.wide.inRound l) n P md ops Q fuel L a w
 | 0,L,a,w,h=>h
 | fuel+1,L,a,w,h=>by
  refine ⟨h.1,fun i hi=>?_⟩;have h:=h.2 i hi;unfold wpOp at h;unfold wpOpIn
  split
  ·rename_i ho
   rw [ho] at h;exact Jl hno hd fuel _ _ _ h
  ·rename_i o ho
   rw [ho] at h;simp only at h
   split at h
   ·rename_i hw
    rw [if_pos hw]
    rcases h with h|h
    ·exact VY (hd o (by rw [Array.mem_toList_iff];exact Array.mem_of_getElem? ho)) (Oper.wp_mono (fun a w h=>Jl hno hd fuel _ _ _ h) h)
    ·exact (hno h.2).elim
   ·rename_i hw
    rw [if_neg hw];exact ⟨fun _ _=>trivial,Jl hno hd fuel _ _ _ h⟩
end
def bp (P:Program) (l n:Nat):WPS P where
 W:=fun c Q a w=>Code.wpIn (Fence.wide.inRound l) n P c Q a w
 dfr:=false
 mono:=fun h hq=>wpIn_mono h hq
 skip:=wpIn_skip
 exit:=wpIn_exit
 ret:=wpIn_ret
 seq:=wpIn_seq
 cond:=fun hc h1 h2=>wpIn_cond_split hc h1 h2
 block:=wpIn_block
 loop:=fun I μ h0 h=>wpIn_loop I μ h0 h
 scope:=fun hd=>by cases hd
 label:=fun h=>wpIn_label h
 list:=fun hno hd h=>wpIn_region_list (MH hno _ (fun o ho=>YW.1 (hd.resolve_left (by simp)) o ho) _ _ h)
 any:=fun hm hno hd h=>wpIn_region_any hm (Jl hno (fun o ho=>YW.1 (hd.resolve_left (by simp)) o ho) _ _ _ _ h)
theorem WPS.ghost {P:Program} (S:WPS P) {Q:Exit->Act->World->Prop} {a:Act} {w:World} {c:Code} (I:Nat->Act->World->Prop) (n₀:Nat) (h₀:I n₀ a w)
  (round:∀n a w,I n a w->S.W c (Exit.then (fun a' w'=>∃n',n' < n/\I n' a' w') Q) a w):S.W (.loop c) Q a w:=by
 refine S.loop (fun a w=>∃n,I n a w) (fun a w=>leastOf (fun n=>I n a w)) ⟨n₀,h₀⟩ ?_;intro a w hI;refine S.mono (round _ a w (leastOf_spec hI).1) ?_;intro e a' w' hq
 cases e with
 | normal=>
  obtain ⟨n',hlt,hI'⟩:=hq;exact show (∃n,I n a' w')/\leastOf (fun n=>I n a' w')<leastOf (fun n=>I n a w) from ⟨⟨n',hI'⟩,Nat.lt_of_le_of_lt ((leastOf_spec ⟨n',hI'⟩).2 n' hI') hlt⟩
 | exit id=>exact hq
 | goto l=>exact hq
 | ret=>exact hq
 | panic ch=>exact hq
 | outgrown=>exact hq
def WPS.rounds {P:Program} (S:WPS P) (c:Code) (Q:Exit->Act->World->Prop):Nat->Act->World->Prop
 | 0,_,_=>False
 | n+1,a,w=>S.W c (Exit.then (WPS.rounds S c Q n) Q) a w
theorem WPS.VZ {P:Program} (S:WPS P) {Q:Exit->Act->World->Prop} {a:Act} {w:World} {c:Code} (n:Nat) (h:S.rounds c Q n a w):S.W (.loop c) Q a w:=by
 refine S.ghost (fun n a w=>S.rounds c Q n a w) n h ?_;intro n a w h
 cases n with
 | zero=>exact h.elim
 | succ n=>
  refine S.mono h ?_;intro e a' w' hq
  cases e with
  | normal=>exact ⟨n,by omega,hq⟩
  | exit id=>exact hq
  | goto l=>exact hq
  | ret=>exact hq
  | panic ch=>exact hq
  | outgrown=>exact hq
end Uw
namespace Uw
open Go Go.RowKit
variable [Glob]
def bu (c:Cx):Exit->az->Prop
 | .normal,.normal=>True
 | .exit i,.exit j=>i=j
 | .ret,.ret=>True
 | .panic ch,.panic d=>∃v,ch=[{ v:=v,recovered:=false }]/\aG c.w (Imm c) d v
 | _,_=>False
def MJ (c:Cx):Ending->Res->Prop
 | .returned gv,.val v=>aD c v gv
 | .panicked ch,.pan d=>∃v,ch=[{ v:=v,recovered:=false }]/\aG c.w (Imm c) d v
 | _,_=>False
def mV (P:Program) (f:FuncId):Prop:=∃fn,P.funcs[f]? = some fn/\fn.body.isSome=true/\(fn.name == "runtime.NumGoroutine")=false
def bN (P:Program) (f:FuncId) (vs:List V) (h:Heap) (nx:Nat) (Q:Res->Heap->Nat->Prop):Prop:=
 mV P f/\∀(c:Cx) (w0:World) (F:Fr) (gvs:List Value),c.heap=h->cz c w0 nx->F.K<=nx->F.p c->aC c vs gvs->
  Calls P f gvs.toArray c.w fun e w'=>∃c' r nx',c'.B=c.B/\c'.J0=c.J0/\c'.w=w'/\cz c' w0 nx'/\nx<=nx'/\F.p c'/\MJ c' e r/\Q r c'.heap nx'
def H5 (P:Program) (m:bE) (st:St) (Q:az->St->Prop):Prop:=
 ∀(S:WPS P) (n:Nat) (pol:Pol) (code:Code),comp P n pol code=some m->(S.dfr=true\/noD code=true)->∀c w0 gs a,Rel c w0 n gs st a->
  S.W code (fun e a' w'=>∃c' me st',c'.B=c.B/\c'.J0=c.J0/\c'.w=w'/\bu c' e me/\Rel c' w0 n gs st' a'/\Q me st') a c.w
def WT (P:Program) (Q:az->St->Prop):Tree->Prop
 | .done e st=>Q e st
 | .fail=>False
 | .test b y n=>(b=true->WT P Q y)/\(b=false->WT P Q n)
 | .both y n=>WT P Q y/\WT P Q n
 | .same x y t=>x=y/\WT P Q t
 | .elem xs i k=>∃x,xs[i]? = some x/\WT P Q (k x)
 | .byte s i k=>∃x,s[i]? = some x/\WT P Q (k x)
 | .val o k=>∃x,o=some x/\WT P Q (k x)
 | .call f ds k=>∃r,Ret P f ds r/\WT P Q (k r)
 | .sub f vs h nx k=>bN P f vs h nx fun r h' nx'=>WT P Q (k r h' nx')
 | .code m st k=>H5 P m st fun e st'=>WT P Q (k e st')
 | .blk o k=>∃x,o=some x/\WT P Q (k x)
 | .A7 o k=>∃x,o=some x/\WT P Q (k x)
 | .heq h k=>∃h',(∀i,look h' i=look h i)/\WT P Q (k h')
section
variable {P : Program} {o : Oper} {a : Act} {K : Act -> World -> Prop} {Qx : Exit -> Act -> World -> Prop} {w w' : World}
theorem bP {gv:Value} (h:(execOp a.eval o).run P w = .ok (.value gv) w') (hk:K (a.put o.dst gv) w'):o.wp P a w K Qx:=by
 unfold Oper.wp;rw [h];exact hk
theorem zb (h:(execOp a.eval o).run P w = .ok .skip w') (hk:K (a.put o.dst undef) w'):o.wp P a w K Qx:=by
 unfold Oper.wp;rw [h];exact hk
end
theorem wE {v:Value} {d:Dat} (h:y6 v=some d) (w:World) (J:Nat->Nat->Prop):aG w J d v:=by
 unfold y6 at h
 split at h
 case h_9 f x y=>
  split at h
  ·rename_i hx hy
   simp at h hx hy;subst h hx hy;simp [aG]
  ·simp at h
 all_goals first|(simp at h;subst h;simp [aG])|(simp at h)
theorem fh:∀{vs:List Value} {ds:List Dat},jn vs=some ds->∀(w:World) (J:Nat->Nat->Prop),aQ w J ds vs
 | [],ds,h,w,J=>by simp [jn] at h;subst h;simp [aQ]
 | v::vs,ds,h,w,J=>by
  unfold jn at h
  split at h
  ·rename_i x l hx hl
   simp at h;subst h;exact ⟨v,vs,rfl,wE hx w J,fh hl w J⟩
  ·simp at h
theorem TU {st:St} {t:Nat} {v:V} (h:(Opd.t t).ev st=some v):look st.regs t=some v/\v≠.undef:=by
 simp only [Opd.ev] at h
 split at h
 ·simp at h
 ·rename_i h1;exact ⟨h,fun e=>h1 (by rw [h,e])⟩
theorem xW {st:St} {y:Opd} {v:V} (h:y.ev st=some v):v≠.undef:=by
 cases y with
 | t n=>exact (TU h).2
 | c d=>simp [Opd.ev] at h;subst h;simp
theorem aF {c:Cx} {w0:World} {n:Nat} {gs:Fr} {st:St} {a:Act} (r:Rel c w0 n gs st a) {x:Operand} {y:Opd} (hc:ao x=some y) {v:V} (hv:y.ev st=some v):aD c v (a.eval x):=by
 cases x with
 | tmp t=>simp [ao] at hc;subst hc;exact r.regs t v (TU hv).1
 | const u=>
  simp [ao] at hc;obtain ⟨d,hd,rfl⟩:=hc;simp [Opd.ev] at hv;subst hv;exact wE hd _ _
 | func f=>simp [ao] at hc;subst hc;simp [Opd.ev] at hv;subst hv;simp [aD,aG,Act.eval]
 | global g=>simp [ao] at hc
theorem aC.length {c:Cx}:∀{xs:List V} {vs:List Value},aC c xs vs->vs.length=xs.length
 | [],vs,h=>by simp [aC] at h;simp [h]
 | x::xs,vs,h=>by obtain ⟨v,vs',rfl,_,h3⟩:=h;simp [aC.length h3]
theorem aQ.length {w:World} {J:Nat->Nat->Prop}:∀{xs:List Dat} {vs:List Value},aQ w J xs vs->vs.length=xs.length
 | [],vs,h=>by simp [aQ] at h;simp [h]
 | x::xs,vs,h=>by obtain ⟨v,vs',rfl,_,h3⟩:=h;simp [aQ.length h3]
theorem aC.ofL {c:Cx}:∀{ds:List Dat} {vs:List Value},aQ c.w (Imm c) ds vs->aC c (ds.map V.d) vs
 | [],vs,h=>by simpa [aC,aQ] using h
 | d::ds,vs,h=>by obtain ⟨v,vs',rfl,h2,h3⟩:=h;exact ⟨v,vs',rfl,h2,aC.ofL h3⟩
theorem nr {c:Cx} {x:V} {v:Value} (h:aD c x v) (hx:x≠.undef):aC c x.cells v.cells.toList:=by
 cases x with
 | agg cs=>obtain ⟨vs,rfl,h2⟩:=h;simpa [V.cells,Value.cells] using h2
 | d x=>
  cases x with
  | agg ds=>obtain ⟨vs,rfl,h2⟩:=h;simpa [V.cells,Value.cells] using aC.ofL h2
  | bool b=>simp only [aD,aG] at h;subst h;exact ⟨_,[],rfl,by simp [aD,aG],rfl⟩
  | int k n=>simp only [aD,aG] at h;subst h;exact ⟨_,[],rfl,by simp [aD,aG],rfl⟩
  | str s=>simp only [aD,aG] at h;subst h;exact ⟨_,[],rfl,by simp [aD,aG],rfl⟩
  | nil=>simp only [aD,aG] at h;subst h;exact ⟨_,[],rfl,by simp [aD,aG],rfl⟩
  | slice k xs z=>
   have h':=h
   rcases h' with ⟨⟨_,rfl,_⟩,_⟩|⟨b,o,cap,rfl,_⟩
   ·exact ⟨_,[],rfl,h,rfl⟩
   ·exact ⟨_,[],rfl,h,rfl⟩
  | func f=>simp only [aD,aG] at h;subst h;exact ⟨_,[],rfl,by simp [aD,aG],rfl⟩
  | nilFunc=>simp only [aD,aG] at h;subst h;exact ⟨_,[],rfl,by simp [aD,aG],rfl⟩
  | nilIface=>simp only [aD,aG] at h;subst h;exact ⟨_,[],rfl,by simp [aD,aG],rfl⟩
  | nilPtr=>simp only [aD,aG] at h;subst h;exact ⟨_,[],rfl,by simp [aD,aG],rfl⟩
  | qu=>simp only [aD,aG] at h;subst h;exact ⟨_,[],rfl,by simp [aD,aG],rfl⟩
  | iface t d=>obtain ⟨u,rfl,h2⟩:=h;exact ⟨_,[],rfl,⟨u,rfl,h2⟩,rfl⟩
  | tuple ds=>obtain ⟨vs,rfl,h2⟩:=h;exact ⟨_,[],rfl,⟨vs,rfl,h2⟩,rfl⟩
 | ptr id off=>obtain ⟨h1,rfl⟩:=h;exact ⟨_,[],rfl,⟨h1,rfl⟩,rfl⟩
 | ro cs off=>obtain ⟨b,o,rfl,h2⟩:=h;exact ⟨_,[],rfl,⟨b,o,rfl,h2⟩,rfl⟩
 | kV id ver i cc=>
  have h':=h;simp only [aD] at h';unfold jr at h'
  split at h'
  ·obtain ⟨_,⟨x,rfl⟩,_⟩:=h';exact ⟨_,[],rfl,h,rfl⟩
  ·exact h'.elim
 | ref id ver off len=>
  have h':=h;simp only [aD] at h';unfold kB at h'
  split at h'
  ·rcases h' with ⟨_,⟨rfl,_⟩|⟨b,o,cap,rfl,_⟩⟩<;>exact ⟨_,[],rfl,h,rfl⟩
  ·obtain ⟨_,⟨x,l,cp,rfl⟩,_⟩:=h';exact ⟨_,[],rfl,h,rfl⟩
  ·exact h'.elim
 | func f fs cap=>obtain ⟨us,vs,rfl,h2⟩:=h;exact ⟨_,[],rfl,⟨us,vs,rfl,h2⟩,rfl⟩
 | tuple ds=>obtain ⟨vs,rfl,h2⟩:=h;exact ⟨_,[],rfl,⟨vs,rfl,h2⟩,rfl⟩
 | hnd id=>
  have h':=h;simp only [aD] at h';unfold eP at h'
  split at h'
  ·subst h';exact ⟨_,[],rfl,h,rfl⟩
  ·subst h';exact ⟨_,[],rfl,h,rfl⟩
  ·exact h'.elim
 | row id len=>obtain ⟨h1,rfl,h3⟩:=h;exact ⟨_,[],rfl,⟨h1,rfl,h3⟩,rfl⟩
 | undef=>exact (hx rfl).elim
end Uw
namespace Uw
open Go Go.RowKit
variable [Glob]
theorem aE {α:Type} (l:List (Nat×α)) (i j:Nat) (a:α):look ((i,a)::l) j=if i=j then some a else look l j:=by
 rw [look];by_cases h:i=j
 ·subst h;simp
 ·have:Nat.beq i j=false:=by
   rw [Bool.eq_false_iff];intro hb;exact h (wt hb)
  simp [this,h]
theorem cell_of_block {w w' : World} {b o:Nat} (h:w'.heap[b]? = w.heap[b]?):w'.cell? ⟨b,o,none⟩=w.cell? ⟨b,o,none⟩:=World.cell?_of_block (w:=w) (w':=w') (a:=⟨b,o,none⟩) h
theorem cz.zc {c:Cx} {w0:World} {n:Nat} (h:cz c w0 n):c.B<=c.w.heap.size:=Zn h.kd.1 h.below.size
theorem cz.D3 {c:Cx} {w0:World} {n:Nat} (h:cz c w0 n) {b:Nat} (hb:c.Old b):b<c.w.heap.size:=by
 rcases hb with hb|hb
 ·exact Zm hb h.zc
 ·exact Zm (h.other b hb).1 h.below.size
theorem cz.rN {c:Cx} {w0:World} {n:Nat} (h:cz c w0 n) {b:Nat} (hb:c.w.heap.size<=b):¬c.Old b:=fun ho=>by have:=h.D3 ho;omega
theorem cz.geB {c:Cx} {w0:World} {n:Nat} (h:cz c w0 n) {id:Nat} {b:Blk} (hb:look c.heap id=some b) (hph:Ph (c.pl id) b):c.B<=(c.pl id).gb:=Z3 fun hlt=>h.ge id b hb hph (.inl hlt)
theorem cz.zd {c:Cx} {w0:World} {n:Nat} (h:cz c w0 n) {b o:Nat} (hb:Imm c b o):b<c.w.heap.size:=by
 rcases hb with hb|hb
 ·exact h.D3 hb.1
 ·exact hb.2.1
theorem cz.others {c:Cx} {w0:World} {n:Nat} (h:cz c w0 n) {w' : World} (hk:∀b,c.J0.X b->b<c.w.heap.size->w'.heap[b]? = c.w.heap[b]?):∀b,c.J0.X b->b<w0.heap.size/\w'.heap[b]? = w0.heap[b]?:=fun b hb=>
 ⟨(h.other b hb).1,(hk b hb (h.D3 (.inr hb))).trans (h.other b hb).2⟩
theorem cz.glob {c:Cx} {w0:World} {n:Nat} (h:cz c w0 n):GOk c.w.heap.size c.w:=
 ⟨Ls _,Zn h.kd.2.1 h.zc,Glob.ok w0 c.w (fun k hk=>h.below.block k (Zm hk h.kd.2.1)) h.kd.2.2⟩
theorem cz.i6 {c:Cx} {w0:World} {n:Nat} (h:cz c w0 n) {id:Nat} {b:Blk} (hb:look c.heap id=some b) (hph:Ph (c.pl id) b):(c.pl id).gb<c.w.heap.size:=by
 have:=h.blk id b hb;have key:∀o,c.w.heap[(c.pl id).gb]? = some o->(c.pl id).gb<c.w.heap.size:=by
  intro o ho;by_cases hlt:(c.pl id).gb<c.w.heap.size
  ·exact hlt
  ·rw [ZI (by omega)] at ho;cases ho
 cases b with
 | var cs=>obtain ⟨vs,e,h1,_⟩:=this;exact key _ h1
 | arr k xs=>obtain ⟨vs,e,h1,_⟩:=this.2 hph;exact key _ h1
 | mt k v xs=>obtain ⟨vs,e,h1,_⟩:=this.2.2 hph;exact key _ h1
 | iter s p=>exact key _ this
 | map kk es=>obtain ⟨ms,k,h1,_⟩:=this;exact key _ h1
theorem Evo.grow {c:Cx} {w0:World} {n:Nat} {w' : World} (r:cz c w0 n) (h:Below c.w.heap.size c.w w'):Evo c { c with w:=w' }:=by
 refine ⟨?_,?_⟩
 ·intro b o hi
  refine ⟨?_,?_⟩
  ·rcases hi with hi|⟨h1,h2,h3⟩
   ·exact .inl hi
   ·exact .inr ⟨h1,Zm h2 h.size,h3⟩
  ·exact cell_of_block (h.block b (r.zd hi))
 ·intro id b hb
  refine ⟨b,hb,?_⟩
  cases b<;>simp [cD]
theorem cz.grow {c:Cx} {w0:World} {n:Nat} {w' : World} (r:cz c w0 n) (h:Below c.w.heap.size c.w w'):cz { c with w:=w' } w0 n:=by
 have he:=Evo.grow r h;refine ⟨r.below.trans (h.mono r.zc),r.others (fun b _ hb=>h.block b hb),r.kd,?_,r.lt,r.ge,r.inj⟩;intro id b hb;exact cj.evo he rfl (fun hp=>h.block _ (r.i6 hb hp)) (r.blk id b hb)
theorem Rel.grow {c:Cx} {w0:World} {n:Nat} {gs:Fr} {st:St} {a:Act} {w' : World} (r:Rel c w0 n gs st a) (h:Below c.w.heap.size c.w w'):Rel { c with w:=w' } w0 n gs st a:=
 r.evo (Evo.grow r.hrel h) r.heap (r.hrel.grow h) rfl rfl rfl (Ls _)
def Cx.push (c:Cx) (next cap:Nat) (b:Blk) (o:Obj):Cx:=
 { c with heap:=(next,b)::c.heap,pl:=fun i=>if i=next then ⟨c.w.heap.size,cap⟩ else c.pl i,w:=c.w.alloc o }
theorem pT {c:Cx} {w0:World} {next cap:Nat} {b:Blk} {o:Obj} (r:cz c w0 next) {id:Nat} {b' : Blk} (h:look c.heap id=some b') :
  look (c.push next cap b o).heap id=some b'/\(c.push next cap b o).pl id=c.pl id:=by
 have:=r.lt id b' h;simp only [Cx.push,aE];constructor
 ·rw [if_neg (by omega)];exact h
 ·rw [if_neg (by omega)]
theorem Evo.push {c:Cx} {w0:World} {next cap:Nat} {b:Blk} {o:Obj} (r:cz c w0 next):Evo c (c.push next cap b o):=by
 refine ⟨?_,?_⟩
 ·intro b' o' hi
  have hb:b' < c.w.heap.size:=r.zd hi;refine ⟨?_,cell_of_block (Below.heap_alloc _ _ _ hb)⟩
  rcases hi with hi|⟨h1,h2,h3⟩
  ·exact .inl hi
  ·refine .inr ⟨h1,?_,?_⟩
   ·show b' < (c.w.heap.push o).size
    rw [Array.size_push];omega
   ·intro id blk hl hph hg
    simp only [Cx.push,aE] at hl hg hph;by_cases hid:next=id
    ·subst hid;simp at hg;omega
    ·rw [if_neg hid] at hl
     rw [if_neg (by omega)] at hg hph;exact h3 id blk hl hph hg
 ·intro id b' hb
  obtain ⟨h1,h2⟩:=pT (cap:=cap) (b:=b) (o:=o) r hb;refine ⟨b',h1,?_⟩;rw [h2]
  cases b'<;>simp [cD]
theorem cz.push {c:Cx} {w0:World} {next cap:Nat} {b:Blk} {o:Obj} (r:cz c w0 next) (hb:cj (c.push next cap b o) next b):cz (c.push next cap b o) w0 (next+1):=by
 have he:Evo c (c.push next cap b o):=Evo.push r;refine ⟨r.below.alloc r.zc o,r.others (fun b _ hb=>Below.heap_alloc _ _ _ hb),r.kd,?_,?_,?_,?_⟩
 ·intro id b' hl
  by_cases hid:next=id
  ·subst hid
   simp only [Cx.push,aE,if_true] at hl;injection hl with hl
   subst hl;exact hb
  ·simp only [Cx.push,aE,if_neg hid] at hl
   obtain ⟨h1,h2⟩:=pT (cap:=cap) (b:=b) (o:=o) r hl;exact cj.evo he h2 (fun hp=>Below.heap_alloc _ _ _ (r.i6 hl hp)) (r.blk id b' hl)
 ·intro id b' hl
  by_cases hid:next=id
  ·omega
  ·simp only [Cx.push,aE,if_neg hid] at hl
   have:=r.lt id b' hl;omega
 ·intro id b' hl hph
  by_cases hid:next=id
  ·subst hid
   simp only [Cx.push,if_true];exact r.rN (Ls _)
  ·simp only [Cx.push,aE,if_neg hid] at hl
   obtain ⟨h1,h2⟩:=pT (cap:=cap) (b:=b) (o:=o) r hl;rw [h2] at hph ⊢;exact r.ge id b' hl hph
 ·intro id id' b1 b2 h1 h2 p1 p2 hg
  by_cases hid:next=id
  ·by_cases Ft : next=id'
   ·omega
   ·exfalso
    simp only [Cx.push,aE,if_neg Ft] at h2;obtain ⟨_,e2⟩:=pT (cap:=cap) (b:=b) (o:=o) r h2;rw [e2] at p2;have:=r.i6 h2 p2;simp [Cx.push,hid.symm,show id'≠next from fun h=>Ft h.symm] at hg;omega
  ·simp only [Cx.push,aE,if_neg hid] at h1
   by_cases Ft : next=id'
   ·exfalso
    obtain ⟨_,e1⟩:=pT (cap:=cap) (b:=b) (o:=o) r h1;rw [e1] at p1;have:=r.i6 h1 p1;simp [Cx.push,Ft.symm,show id≠next from fun h=>hid h.symm] at hg;omega
   ·simp only [Cx.push,aE,if_neg Ft] at h2
    simp [Cx.push,show id≠next from fun h=>hid h.symm,show id'≠next from fun h=>Ft h.symm] at hg p1 p2;exact r.inj id id' b1 b2 h1 h2 p1 p2 hg
theorem Rel.push {c:Cx} {w0:World} {n:Nat} {gs:Fr} {st:St} {a:Act} (r:Rel c w0 n gs st a) {b:Blk} {o:Obj} {cap:Nat} (hb:cj (c.push st.next cap b o) st.next b) :
  Rel (c.push st.next cap b o) w0 n gs (dY st b) a:=
 r.evo (Evo.push r.hrel) (by simp [Cx.push,dY,r.heap]) (r.hrel.push hb) rfl rfl rfl (Nat.le_succ _)
theorem Evo.setVar {c:Cx} {w0:World} {next:Nat} (r:cz c w0 next) {id:Nat} {cs cs' : List V} (hl:look c.heap id=some (.var cs)) {w' : World}
  (hw:∀b,b≠(c.pl id).gb->w'.heap[b]? = c.w.heap[b]?) (hsz:w'.heap.size=c.w.heap.size):Evo c { c with heap:=(id,.var cs')::c.heap,w:=w' }:=by
 refine ⟨?_,?_⟩
 ·intro b o hi
  have hne:b≠(c.pl id).gb:=by
   rintro rfl
   rcases hi with hi|⟨h1,h2,h3⟩
   ·exact r.ge id _ hl trivial hi.1
   ·obtain ⟨k,xs,h,_⟩:=h3 id _ hl trivial rfl;cases h
  refine ⟨?_,cell_of_block (hw b hne)⟩
  rcases hi with hi|⟨h1,h2,h3⟩
  ·exact .inl hi
  ·refine .inr ⟨h1,by simpa [hsz] using h2,?_⟩
   intro id' blk hl' hph hg;simp only [aE] at hl';by_cases hid:id=id'
   ·subst hid;exact (hne hg.symm).elim
   ·rw [if_neg hid] at hl';exact h3 id' blk hl' hph hg
 ·intro id' b hb
  simp only [aE];by_cases hid:id=id'
  ·subst hid
   rw [hl] at hb;injection hb with hb;subst hb
   exact ⟨_,if_pos rfl,rfl⟩
  ·rw [if_neg hid]
   exact ⟨b,hb,by cases b<;>simp [cD]⟩
theorem cz.setVar {c:Cx} {w0:World} {next:Nat} (r:cz c w0 next) {id:Nat} {cs cs' : List V} (hl:look c.heap id=some (.var cs)) {w' : World}
  (hbel:Below c.B c.w w')
  (hw:∀b,b≠(c.pl id).gb->w'.heap[b]? = c.w.heap[b]?) (hsz:w'.heap.size=c.w.heap.size)
  (hb:cj { c with heap:=(id,.var cs')::c.heap,w:=w' } id (.var cs')):cz { c with heap:=(id,.var cs')::c.heap,w:=w' } w0 next:=by
 have he:=Evo.setVar (cs':=cs') r hl hw hsz;refine ⟨r.below.trans hbel,r.others (fun b hb _=>hw b (fun e=>r.ge id _ hl trivial (.inr (e ▸ hb)))),r.kd,?_,?_,?_,?_⟩
 ·intro id' b hl'
  simp only [aE] at hl';by_cases hid:id=id'
  ·subst hid;simp at hl';subst hl';exact hb
  ·rw [if_neg hid] at hl'
   refine cj.evo he rfl (fun hph=>hw _ ?_) (r.blk id' b hl');intro hg;exact hid (r.inj id' id b _ hl' hl hph trivial hg).symm
 ·intro id' b hl'
  simp only [aE] at hl';by_cases hid:id=id'
  ·subst hid;exact r.lt id _ hl
  ·rw [if_neg hid] at hl';exact r.lt id' b hl'
 ·intro id' b hl' hph
  simp only [aE] at hl';by_cases hid:id=id'
  ·subst hid;exact r.ge id _ hl trivial
  ·rw [if_neg hid] at hl';exact r.ge id' b hl' hph
 ·intro id1 id2 b1 b2 h1 h2 p1 p2 hg
  simp only [aE] at h1 h2;have e1:∃b,look c.heap id1=some b/\Ph (c.pl id1) b:=by
   by_cases hid:id=id1
   ·subst hid;exact ⟨_,hl,trivial⟩
   ·rw [if_neg hid] at h1;exact ⟨_,h1,p1⟩
  have e2:∃b,look c.heap id2=some b/\Ph (c.pl id2) b:=by
   by_cases hid:id=id2
   ·subst hid;exact ⟨_,hl,trivial⟩
   ·rw [if_neg hid] at h2;exact ⟨_,h2,p2⟩
  obtain ⟨x1,e1,q1⟩:=e1;obtain ⟨x2,e2,q2⟩:=e2;exact r.inj id1 id2 x1 x2 e1 e2 q1 q2 hg
def Cx.aH (c:Cx) (id:Nat) (b:Blk) (p:Pl) (w:World):Cx:={ c with heap:=(id,b)::c.heap,pl:=fun i=>if i=id then p else c.pl i,w:=w }
theorem bj {c:Cx} {id:Nat} {b:Blk} {p:Pl} {w:World} {id' : Nat} (h:id≠id'):look (c.aH id b p w).heap id' = look c.heap id'/\(c.aH id b p w).pl id' = c.pl id':=by
 simp only [Cx.aH,aE];exact ⟨if_neg h,if_neg (fun e=>h e.symm)⟩
theorem af {c:Cx} {id:Nat} {b:Blk} {p:Pl} {w:World}:look (c.aH id b p w).heap id=some b/\(c.aH id b p w).pl id=p:=by
 constructor
 ·simp only [Cx.aH,aE,if_true]
 ·simp only [Cx.aH,if_true]
theorem Evo.aH {c:Cx} {w0:World} {next:Nat} (r:cz c w0 next) {id:Nat} {b b' : Blk} {p' : Pl} (hl:look c.heap id=some b) {w' : World}
  (hother:∀k,k<c.w.heap.size->(Ph (c.pl id) b->k≠(c.pl id).gb)->w'.heap[k]? = c.w.heap[k]?) (hsz:c.w.heap.size<=w'.heap.size)
  (hp:(p'.gb=(c.pl id).gb/\(Ph p' b'->Ph (c.pl id) b))\/c.w.heap.size<=p'.gb)
  (yu:Ph (c.pl id) b->∀o,Imm c (c.pl id).gb o->w'.cell? ⟨(c.pl id).gb,o,none⟩=c.w.cell? ⟨(c.pl id).gb,o,none⟩/\(p'.gb=(c.pl id).gb->∃k xs,b' = .arr k xs/\o<xs.length * k))
  (hbe:cD (c.pl id) p' b b'):Evo c (c.aH id b' p' w'):=by
 refine ⟨?_,?_⟩
 ·intro k o hi
  have hk:k<c.w.heap.size:=r.zd hi;by_cases hkg:Ph (c.pl id) b/\k=(c.pl id).gb
  ·obtain ⟨hph,hkg⟩:=hkg
   subst hkg;obtain ⟨h1,h2⟩:=yu hph o hi;refine ⟨?_,h1⟩
   rcases hi with hi|⟨g1,g2,g3⟩
   ·exact .inl hi
   ·refine .inr ⟨g1,Zm g2 hsz,?_⟩
    intro id' blk hl' kW hg;by_cases hid:id=id'
    ·subst hid
     rw [af.1] at hl';injection hl' with hl'
     subst hl';rw [af.2] at hg;exact h2 hg
    ·rw [(bj hid).1] at hl'
     rw [(bj hid).2] at hg kW;exact g3 id' blk hl' kW hg
  ·refine ⟨?_,cell_of_block (hother k hk (fun hph hkk=>hkg ⟨hph,hkk⟩))⟩
   rcases hi with hi|⟨g1,g2,g3⟩
   ·exact .inl hi
   ·refine .inr ⟨g1,Zm g2 hsz,?_⟩
    intro id' blk hl' kW hg;by_cases hid:id=id'
    ·subst hid
     rw [af.1] at hl';injection hl' with hl'
     subst hl';rw [af.2] at hg kW
     rcases hp with ⟨hp,hp2⟩|hp
     ·exact (hkg ⟨hp2 kW,by rw [<- hg,hp]⟩).elim
     ·omega
    ·rw [(bj hid).1] at hl'
     rw [(bj hid).2] at hg kW;exact g3 id' blk hl' kW hg
 ·intro id' x hx
  by_cases hid:id=id'
  ·subst hid
   rw [hl] at hx;injection hx with hx;subst hx
   exact ⟨b',af.1,by rw [af.2];exact hbe⟩
  ·refine ⟨x,by rw [(bj hid).1];exact hx,?_⟩
   rw [(bj hid).2]
   cases x<;>simp [cD]
theorem cz.aH {c:Cx} {w0:World} {next:Nat} (r:cz c w0 next) {id:Nat} {b b' : Blk} {p' : Pl} (hl:look c.heap id=some b) {w' : World} (he:Evo c (c.aH id b' p' w'))
  (hother:∀k,k<c.w.heap.size->(Ph (c.pl id) b->k≠(c.pl id).gb)->w'.heap[k]? = c.w.heap[k]?) (hbel:Below c.B c.w w')
  (hp:(p'.gb=(c.pl id).gb/\(Ph p' b'->Ph (c.pl id) b))\/c.w.heap.size<=p'.gb) (hb:cj (c.aH id b' p' w') id b'):cz (c.aH id b' p' w') w0 next:=by
 refine ⟨r.below.trans hbel,r.others (fun k hk hlt=>hother k hlt (fun hph e=>r.ge id _ hl hph (.inr (e ▸ hk)))),r.kd,?_,?_,?_,?_⟩
 ·intro id' x hx
  by_cases hid:id=id'
  ·subst hid
   rw [af.1] at hx;injection hx with hx;subst hx;exact hb
  ·rw [(bj hid).1] at hx
   refine cj.evo he (bj hid).2 (fun hph=>hother _ (r.i6 hx hph) ?_) (r.blk id' x hx);intro XI hg;exact hid (r.inj id' id x _ hx hl hph XI hg).symm
 ·intro id' x hx
  by_cases hid:id=id'
  ·subst hid;exact r.lt id _ hl
  ·rw [(bj hid).1] at hx;exact r.lt id' x hx
 ·intro id' x hx hph
  by_cases hid:id=id'
  ·subst hid
   rw [af.1] at hx;injection hx with hx;subst hx
   rw [af.2] at hph ⊢;show ¬c.Old p'.gb
   rcases hp with ⟨hp,hp2⟩|hp
   ·rw [hp];exact r.ge id _ hl (hp2 hph)
   ·exact r.rN hp
  ·rw [(bj hid).1] at hx
   rw [(bj hid).2] at hph ⊢;exact r.ge id' x hx hph
 ·intro id1 id2 b1 b2 h1 h2 q1 q2 hg
  by_cases h1' : id=id1
  ·by_cases h2' : id=id2
   ·omega
   ·exfalso
    subst h1';rw [af.1] at h1;injection h1 with h1;subst h1
    rw [(bj h2').1] at h2;rw [af.2,(bj h2').2] at hg;rw [af.2] at q1;rw [(bj h2').2] at q2;have:=r.i6 h2 q2
    rcases hp with ⟨hp,hp2⟩|hp
    ·exact h2' (r.inj id id2 _ _ hl h2 (hp2 q1) q2 (by rw [<- hp,hg]))
    ·omega
  ·rw [(bj h1').1] at h1
   by_cases h2' : id=id2
   ·exfalso
    subst h2';rw [af.1] at h2;injection h2 with h2;subst h2
    rw [af.2,(bj h1').2] at hg;rw [af.2] at q2;rw [(bj h1').2] at q1;have:=r.i6 h1 q1
    rcases hp with ⟨hp,hp2⟩|hp
    ·exact h1' (r.inj id id1 _ _ hl h1 (hp2 q2) q1 (by rw [<- hp,hg]))
    ·omega
   ·rw [(bj h2').1] at h2
    rw [(bj h1').2,(bj h2').2] at hg;rw [(bj h1').2] at q1;rw [(bj h2').2] at q2;exact r.inj id1 id2 b1 b2 h1 h2 q1 q2 hg
def Cx.zero (c:Cx) (next:Nat) (b:Blk):Cx:={ c with heap:=(next,b)::c.heap,pl:=fun i=>if i=next then ⟨0,0⟩ else c.pl i }
theorem BS {c:Cx} {w0:World} {next:Nat} {b:Blk} (r:cz c w0 next) {id:Nat} {b' : Blk} (h:look c.heap id=some b'):look (c.zero next b).heap id=some b'/\(c.zero next b).pl id=c.pl id:=by
 have:=r.lt id b' h;simp only [Cx.zero,aE];constructor
 ·rw [if_neg (by omega)];exact h
 ·rw [if_neg (by omega)]
theorem Evo.zero {c:Cx} {w0:World} {next:Nat} {b:Blk} (r:cz c w0 next) (hb:¬Ph ⟨0,0⟩ b):Evo c (c.zero next b):=by
 refine ⟨?_,?_⟩
 ·intro b' o' hi
  refine ⟨?_,rfl⟩
  rcases hi with hi|⟨h1,h2,h3⟩
  ·exact .inl hi
  ·refine .inr ⟨h1,h2,?_⟩
   intro id blk hl hph hg;simp only [Cx.zero,aE] at hl hg hph;by_cases hid:next=id
   ·subst hid
    simp at hl hph;subst hl;exact (hb hph).elim
   ·rw [if_neg hid] at hl
    rw [if_neg (by omega)] at hg hph;exact h3 id blk hl hph hg
 ·intro id b' hb
  obtain ⟨h1,h2⟩:=BS (b:=b) r hb;refine ⟨b',h1,?_⟩;rw [h2]
  cases b'<;>simp [cD]
theorem cz.zero {c:Cx} {w0:World} {next:Nat} {b:Blk} (r:cz c w0 next) (hb:¬Ph ⟨0,0⟩ b) (hr:cj (c.zero next b) next b):cz (c.zero next b) w0 (next+1):=by
 have he:Evo c (c.zero next b):=Evo.zero r hb;have key:∀id x,look (c.zero next b).heap id=some x->(id=next/\x=b)\/(look c.heap id=some x/\(c.zero next b).pl id=c.pl id):=by
  intro id x hl;by_cases hid:next=id
  ·subst hid
   simp only [Cx.zero,aE,if_true] at hl;injection hl with hl
   exact .inl ⟨rfl,hl.symm⟩
  ·simp only [Cx.zero,aE,if_neg hid] at hl
   exact .inr ⟨hl,(BS (b:=b) r hl).2⟩
 have nph:¬Ph ((c.zero next b).pl next) b:=by simpa [Cx.zero] using hb
 refine ⟨r.below,r.other,r.kd,?_,?_,?_,?_⟩
 ·intro id x hl
  rcases key id x hl with ⟨rfl,rfl⟩|⟨h1,h2⟩
  ·exact hr
  ·exact cj.evo he h2 (fun _=>rfl) (r.blk id x h1)
 ·intro id x hl
  rcases key id x hl with ⟨rfl,rfl⟩|⟨h1,h2⟩
  ·omega
  ·have:=r.lt id x h1;omega
 ·intro id x hl hph
  rcases key id x hl with ⟨rfl,rfl⟩|⟨h1,h2⟩
  ·exact (nph hph).elim
  ·rw [h2] at hph ⊢;exact r.ge id x h1 hph
 ·intro id id' x x' hl hl' p1 p2 hg
  rcases key id x hl with ⟨rfl,rfl⟩|⟨h1,h2⟩
  ·exact (nph p1).elim
  ·rcases key id' x' hl' with ⟨rfl,rfl⟩|⟨h1',h2'⟩
   ·exact (nph p2).elim
   ·rw [h2] at p1 hg
    rw [h2'] at p2 hg;exact r.inj id id' x x' h1 h1' p1 p2 hg
theorem Rel.zero {c:Cx} {w0:World} {n:Nat} {gs:Fr} {st:St} {a:Act} (r:Rel c w0 n gs st a) {b:Blk} (hb:¬Ph ⟨0,0⟩ b) (hr:cj (c.zero st.next b) st.next b):Rel (c.zero st.next b) w0 n gs (dY st b) a:=
 r.evo (Evo.zero r.hrel hb) (by simp [Cx.zero,dY,r.heap]) (r.hrel.zero hb hr) rfl rfl rfl (Nat.le_succ _)
end Uw
namespace Uw
open Go Go.RowKit
variable [Glob]
theorem addr_add (b o i:Nat):(⟨b,o,none⟩:Addr).add i=⟨b,o+i,none⟩:=by
 unfold Addr.add;by_cases h:i=0
 ·subst h;simp
 ·simp [h]
section
variable {P : Program} {w : World}
theorem run_bind {α β:Type} (s:Sem α) (f:α->Sem β):(s.bind f).run P w=match s.run P w with | .ok x w'=>(f x).run P w' | .halt h w'=>.halt h w':=by
 induction s generalizing w with
 | pure a=>rfl
 | load m a k ih=>
  simp only [Sem.bind,Sem.run]
  split
  ·exact ih _
  ·split
   ·exact ih _
   ·rfl
 | store m a v k ih=>
  cases v<;>simp only [Sem.bind,Sem.run]<;>(try rfl)<;>(split;(split;rfl;exact ih))<;>(split;exact ih;rfl)
 | new o k ih=>simp only [Sem.bind,Sem.run];exact ih _
 | shape r k ih=>simp only [Sem.bind,Sem.run];exact ih _
 | freeze a n k ih=>simp only [Sem.bind,Sem.run];exact ih
 | frozen a k ih=>simp only [Sem.bind,Sem.run];exact ih _
 | getObj r k ih=>
  simp only [Sem.bind,Sem.run]
  split
  ·rfl
  ·exact ih _
  ·rfl
 | setObj r o k ih=>
  simp only [Sem.bind,Sem.run]
  split
  ·rfl
  ·exact ih
  ·rfl
 | choose q k ih=>
  simp only [Sem.bind,Sem.run]
  split
  ·exact ih _
  ·exact ih _
 | sys c k ih=>simp only [Sem.bind,Sem.run];exact ih _
 | program k ih=>simp only [Sem.bind,Sem.run];exact ih _
 | mark m k ih=>simp only [Sem.bind,Sem.run];exact ih
 | halt h=>rfl
theorem run_bind_ok {α β:Type} {s:Sem α} {f:α->Sem β} {x:α} {w' : World} (h:s.run P w = .ok x w'):(s >>= f).run P w=(f x).run P w':=by
 show (s.bind f).run P w=_;rw [run_bind,h]
theorem run_load {a:Addr} {v:Value} (h:w.cell? a=some v):(load a).run P w = .ok v w:=by
 simp [load,Sem.run,h]
theorem run_loadCellsFrom {b o:Nat}:∀(n i:Nat) (acc:Array Value) (vs:List Value),vs.length=n->
  (∀j v,vs[j]? = some v->w.cell? ⟨b,o+i+j,none⟩=some v)->(loadCellsFrom ⟨b,o,none⟩ i n acc).run P w = .ok (acc++vs.toArray) w:=by
 intro n
 induction n with
 | zero=>intro i acc vs hl _;have:vs=[]:=YZ hl;subst this;simp [loadCellsFrom,pure]
 | succ n ih=>
  intro i acc vs hl hc
  cases vs with
  | nil=>simp at hl
  | cons v vs=>
   simp only [loadCellsFrom];rw [run_bind_ok (run_load (v:=v) (by rw [addr_add];simpa using hc 0 v rfl))];rw [ih (i+1) (acc.push v) vs (by simpa using hl) (by
    intro j u hu;have:=hc (j+1) u (by simpa using hu);rw [show o+(i+1)+j=o+i+(j+1) by omega];exact this)]
   simp
theorem run_loadCells {b o n:Nat} {vs:List Value} (hl:vs.length=n) (hc:∀j v,vs[j]? = some v->w.cell? ⟨b,o+j,none⟩=some v):(loadCells ⟨b,o,none⟩ n).run P w = .ok vs.toArray w:=by
 unfold loadCells;rw [run_loadCellsFrom n 0 #[] vs hl (by simpa using hc)];simp
theorem uW {t:TypeId} {i:TypeInfo} (h:P.info? t=some i):(typeInfo t).run P w = .ok i w:=by
 simp [typeInfo,program,Bind.bind,Sem.bind,Sem.run,h,pure]
theorem bq {t:TypeId} {d:TypeDesc} (h:P.underlying t=some d):(underlying t).run P w = .ok d w:=by
 simp [underlying,program,Bind.bind,Sem.bind,Sem.run,h,pure]
theorem eu {t:TypeId} {n:Nat} (h:sizeT P t=some n):(Go.sizeOf t).run P w = .ok n w:=by
 simp only [sizeT,Pe] at h;obtain ⟨i,hi,rfl⟩:=h;unfold Go.sizeOf;rw [run_bind_ok (uW hi)];rfl
theorem sV {t:TypeId} {g:Bool} (h:jq P t=some g):(isAgg t).run P w = .ok g w:=by
 unfold jq at h;unfold isAgg
 split at h
 ·rename_i fs hu;simp at h;subst h;rw [run_bind_ok (bq hu)];rfl
 ·rename_i n e hu;simp at h;subst h;rw [run_bind_ok (bq hu)];rfl
 ·rename_i d h1 h2 hu
  simp at h;subst h;rw [run_bind_ok (bq hu)]
  cases d<;>first|rfl|exact (h1 _ rfl).elim|exact (h2 _ _ rfl).elim
 ·simp at h
theorem uX {t:TypeId} {zs:List Dat} (h:lX P t=some zs):∃v,(zeroValue t).run P w = .ok v w/\jn v.cells.toList=some zs:=by
 unfold lX at h
 split at h
 ·rename_i i hi
  split at h
  ·rename_i v hv
   refine ⟨v,?_,h⟩;unfold zeroValue;rw [run_bind_ok (uW hi),hv];rfl
  ·simp at h
 ·simp at h
def pack (g:Bool) (vs:List Value):Option Value:=
 match g,vs with
 | true,vs=>some (.agg vs.toArray)
 | false,[v]=>some v
 | false,_=>none
theorem oL {t:TypeId} {g:Bool} {n b o:Nat} {vs:List Value} {u:Value} (hg:jq P t=some g) (hn:sizeT P t=some n) (hl:vs.length=n) (hp:pack g vs=some u)
  (hc:∀j v,vs[j]? = some v->w.cell? ⟨b,o+j,none⟩=some v):(loadVar t ⟨b,o,none⟩).run P w = .ok u w:=by
 unfold loadVar;rw [run_bind_ok (sV hg)]
 cases g with
 | true=>
  simp only [if_true];rw [run_bind_ok (eu hn),run_bind_ok (run_loadCells hl hc)];simp [pack] at hp;subst hp;rfl
 | false=>
  simp only [Y4,if_false]
  match vs,hp with
  | [v],hp=>simp [pack] at hp;subst hp;exact run_load (by simpa using hc 0 v rfl)
theorem run_store {a:Addr} {v u:Value} (hv:one v=true) (h:w.cell? a=some u) (hf:w.frozen? a=false):(store a v).run P w = .ok () (w.setCell a v):=by
 cases v<;>first|(simp [one] at hv;done)|simp [store,Sem.run,h,hf]
theorem heap_setCell {w:World} {b o:Nat} {v:Value} {vs:Array Value} {e:TypeId} (h:w.heap[b]? = some (.cells vs e (0,0))) :
  (w.setCell ⟨b,o,none⟩ v).heap[b]? = some (.cells (vs.setIfInBounds o v) e (0,0)):=by
 simp [World.setCell,aaB,h]
theorem yw {b o:Nat} {vs:Array Value} {e:TypeId} (h:w.heap[b]? = some (.cells vs e (0,0))):w.frozen? ⟨b,o,none⟩=false:=by
 simp [World.frozen?,h]
theorem bO {b o:Nat} {vs:Array Value} {e:TypeId} (h:w.heap[b]? = some (.cells vs e (0,0))):w.cell? ⟨b,o,none⟩=vs[o]?:=by
 simp [World.cell?,h]
def fS (vs:Array Value) (o:Nat):List Value->Array Value
 | []=>vs
 | v::r=>fS (vs.setIfInBounds o v) (o+1) r
theorem nE:∀(us:List Value) (vs:Array Value) (o:Nat),(fS vs o us).size=vs.size
 | [],vs,o=>rfl
 | u::us,vs,o=>by simp [fS,nE us]
structure Laid (w w' : World) (b:Nat) (vs:Array Value) (e:TypeId):Prop where
 here:w'.heap[b]? = some (.cells vs e (0,0))
 other:∀b',b'≠b->w'.heap[b']? = w.heap[b']?
 size:w'.heap.size=w.heap.size
 os:w'.os=w.os
 tape:w'.tape=w.tape
 output:w'.output=w.output
theorem ju (b o:Nat) {e:TypeId}:∀(us:List Value) (i:Nat) (vs:Array Value) (w:World),w.heap[b]? = some (.cells vs e (0,0))->o+i+us.length<=vs.size->
  (∀u∈us,one u=true)->∃w',(storeCells ⟨b,o,none⟩ us i).run P w = .ok () w'/\Laid w w' b (fS vs (o+i) us) e
 | [],i,vs,w,h,_,_=>⟨w,by unfold storeCells;rfl,⟨h,fun _ _=>rfl,rfl,rfl,rfl,rfl⟩⟩
 | u::us,i,vs,w,h,hl,ho=>by
  simp only [Y7] at hl;have hsome:∃x,w.cell? ⟨b,o+i,none⟩=some x:=by
   rw [bO h,aa8 (by omega)];exact ⟨_,rfl⟩
  obtain ⟨x,hx⟩:=hsome;have h1:=heap_setCell (o:=o+i) (v:=u) h;obtain ⟨w',hw',L⟩:=ju b o us (i+1) (vs.setIfInBounds (o+i) u) (w.setCell ⟨b,o+i,none⟩ u) h1 (by simp;omega) (fun x hx=>ho x (by simp [hx]));refine ⟨w',?_,?_⟩
  ·unfold storeCells
   rw [addr_add,run_bind_ok (run_store (ho u (by simp)) hx (yw h))];exact hw'
  ·refine ⟨by rw [fS];exact L.here,?_,L.size.trans (by simp [World.setCell]),L.os.trans rfl,L.tape.trans rfl,L.output.trans rfl⟩
   intro b' hb';rw [L.other b' hb',Below.heap_setCell _ _ _ _ hb']
theorem uY {t:TypeId} {n b o:Nat} {e:TypeId} {vs:Array Value} {u:Value} (hn:sizeT P t=some n) (hu:u.cells.size=n) (ho:∀x∈u.cells.toList,one x=true)
  (h:w.heap[b]? = some (.cells vs e (0,0))) (hl:o+n<=vs.size):∃w',(storeVar t ⟨b,o,none⟩ u).run P w = .ok () w'/\Laid w w' b (fS vs o u.cells.toList) e:=by
 obtain ⟨w',h1,h2⟩:=ju (P:=P) b o u.cells.toList 0 vs w h (by simp [hu];omega) ho;refine ⟨w',?_,h2⟩;unfold storeVar;rw [run_bind_ok (eu hn)];simp only [hu,ne_eq,not_true_eq_false,if_false];exact h1
end
end Uw
namespace Uw
open Go Go.RowKit
variable [Glob]
theorem yH {c:Cx} {x:V} {v:Value} (h:aD c x v) (hx:uT x=true):one v=true:=by
 cases x with
 | agg cs=>simp [uT] at hx
 | d x=>
  cases x with
  | agg ds=>simp [uT] at hx
  | tuple ds=>simp [uT] at hx
  | slice k xs z=>rcases h with ⟨⟨_,rfl,_⟩,_⟩|⟨b,o,cap,rfl,h2⟩<;>rfl
  | iface t d=>obtain ⟨u,rfl,h2⟩:=h;rfl
  | _=>simp only [aD,aG] at h;subst h;rfl
 | ptr id off=>obtain ⟨h1,rfl⟩:=h;rfl
 | ro cs off=>obtain ⟨b,o,rfl,h2⟩:=h;rfl
 | kV id ver i cc=>
  simp only [aD] at h;unfold jr at h
  split at h
  ·obtain ⟨_,⟨x,rfl⟩,_⟩:=h;rfl
  ·exact h.elim
 | ref id ver off len=>
  simp only [aD] at h;unfold kB at h
  split at h
  ·rcases h with ⟨_,⟨rfl,_⟩|⟨b,o,cap,rfl,_⟩⟩<;>rfl
  ·obtain ⟨_,⟨x,l,cp,rfl⟩,_⟩:=h;rfl
  ·exact h.elim
 | func f fs cap=>obtain ⟨us,vs,rfl,h2⟩:=h;rfl
 | tuple ds=>simp [uT] at hx
 | hnd id=>
  simp only [aD] at h;unfold eP at h
  split at h
  ·subst h;rfl
  ·subst h;rfl
  ·exact h.elim
 | row id len=>obtain ⟨h1,rfl,h3⟩:=h;rfl
 | undef=>simp [uT] at hx
theorem aC.get {c:Cx}:∀{xs:List V} {vs:List Value},aC c xs vs->∀(i:Nat) (x:V),xs[i]? = some x->∃v,vs[i]? = some v/\aD c x v:=by
 intro xs
 induction xs with
 | nil=>intro vs _ i x h;simp at h
 | cons y ys ih=>
  intro vs hh i x h;obtain ⟨v,vs',rfl,h2,h3⟩:=hh
  cases i with
  | zero=>simp at h;subst h;exact ⟨v,rfl,h2⟩
  | succ i=>simp at h;simpa using ih h3 i x h
theorem aC.get' {c:Cx}:∀{xs:List V} {vs:List Value},aC c xs vs->∀(i:Nat) (v:Value),vs[i]? = some v->∃x,xs[i]? = some x/\aD c x v:=by
 intro xs
 induction xs with
 | nil=>intro vs hh i x h;simp [aC] at hh;subst hh;simp at h
 | cons y ys ih=>
  intro vs hh i u h;obtain ⟨v,vs',rfl,h2,h3⟩:=hh
  cases i with
  | zero=>simp at h;subst h;exact ⟨y,rfl,h2⟩
  | succ i=>simp at h;simpa using ih h3 i u h
theorem aC.drop {c:Cx}:∀{xs:List V} {vs:List Value},aC c xs vs->∀n,aC c (xs.drop n) (vs.drop n):=by
 intro xs
 induction xs with
 | nil=>intro vs hh n;simp [aC] at hh;subst hh;simp [aC]
 | cons y ys ih=>
  intro vs hh n;obtain ⟨v,vs',rfl,h2,h3⟩:=hh
  cases n with
  | zero=>exact ⟨v,vs',rfl,h2,h3⟩
  | succ n=>simpa using ih h3 n
theorem aC.take {c:Cx}:∀{xs:List V} {vs:List Value},aC c xs vs->∀n,aC c (xs.take n) (vs.take n):=by
 intro xs
 induction xs with
 | nil=>intro vs hh n;simp [aC] at hh;subst hh;simp [aC]
 | cons y ys ih=>
  intro vs hh n;obtain ⟨v,vs',rfl,h2,h3⟩:=hh
  cases n with
  | zero=>simp [aC]
  | succ n=>exact ⟨v,vs'.take n,rfl,h2,ih h3 n⟩
theorem aC.set {c:Cx}:∀{xs:List V} {vs:List Value},aC c xs vs->∀(i:Nat) {x:V} {v:Value},aD c x v->aC c (xs.set i x) (vs.set i v):=by
 intro xs
 induction xs with
 | nil=>intro vs hh i x v _;simp [aC] at hh;subst hh;simp [aC]
 | cons y ys ih=>
  intro vs hh i x v h;obtain ⟨u,vs',rfl,h2,h3⟩:=hh
  cases i with
  | zero=>exact ⟨v,vs',rfl,h,h3⟩
  | succ i=>exact ⟨u,vs'.set i v,rfl,h2,ih h3 i h⟩
theorem aC.setAt {c:Cx}:∀{ys:List V} {us:List Value},aC c ys us->∀{xs:List V} {vs:Array Value} (i:Nat),aC c xs vs.toList->aC c (setAt xs i ys) (fS vs i us).toList:=by
 intro ys
 induction ys with
 | nil=>intro us h xs vs i hx;simp [aC] at h;subst h;simpa [Uw.setAt,fS] using hx
 | cons y ys ih=>
  intro us h xs vs i hx;obtain ⟨u,us',rfl,h2,h3⟩:=h;rw [Uw.setAt,fS];refine ih h3 (i+1) ?_;rw [aa4];exact aC.set hx i h2
theorem pU {c:Cx} {g:Bool} {xs:List V} {vs:List Value} {x:V} (h:aC c xs vs) (hx:rl g xs=some x):∃u,pack g vs=some u/\aD c x u:=by
 cases g with
 | true=>simp [rl] at hx;subst hx;exact ⟨_,rfl,vs,rfl,h⟩
 | false=>
  match xs,hx,h with
  | [y],hx,h=>
   simp [rl] at hx;subst hx;obtain ⟨v,vs',rfl,h2,h3⟩:=h;simp [aC] at h3;subst h3;exact ⟨v,rfl,h2⟩
theorem BU {g:Bool} {xs:List V} {x:V} (h:rl false xs=some x):xs.length=1:=by
 match xs,h with
 | [y],_=>rfl
theorem du.get {w:World} {J:Nat->Nat->Prop} {b:Nat}:∀{ds:List Dat} {o:Nat},du w J b o ds->∀i d,ds[i]? = some d->∃v,w.cell? ⟨b,o+i,none⟩=some v/\J b (o+i)/\aG w J d v
 | [],o,_,i,d,h=>by simp at h
 | x::xs,o,⟨⟨v,h1,h2,_,h3⟩,h4⟩,i,d,h=>by
  cases i with
  | zero=>simp at h;subst h;exact ⟨v,h1,h2,h3⟩
  | succ i=>
   simp at h;have:=du.get h4 i d h
   rwa [show o+1+i=o+(i+1) by omega] at this
theorem du.vals {w:World} {J:Nat->Nat->Prop} {b:Nat}:∀{ds:List Dat} {o:Nat},du w J b o ds->∃vs:List Value,aQ w J ds vs/\∀j v,vs[j]? = some v->w.cell? ⟨b,o+j,none⟩=some v
 | [],o,_=>⟨[],rfl,by simp⟩
 | x::xs,o,⟨⟨v,h1,h2,_,h3⟩,h4⟩=>by
  obtain ⟨vs,g1,g2⟩:=du.vals h4;refine ⟨v::vs,⟨v,vs,rfl,h3,g1⟩,?_⟩;intro j u hu
  cases j with
  | zero=>simp at hu;subst hu;exact h1
  | succ j=>
   simp at hu;have:=g2 j u hu
   rwa [show o+1+j=o+(j+1) by omega] at this
theorem du.drop {w:World} {J:Nat->Nat->Prop} {b:Nat}:∀{ds:List Dat} {o:Nat},du w J b o ds->∀n,du w J b (o+n) (ds.drop n)
 | ds,o,h,0=>by simpa using h
 | [],o,h,n+1=>by simp [du]
 | x::xs,o,⟨_,h4⟩,n+1=>by
  have:=du.drop h4 n;rw [show o+1+n=o+(n+1) by omega] at this;simpa using this
theorem du.take {w:World} {J:Nat->Nat->Prop} {b:Nat}:∀{ds:List Dat} {o:Nat},du w J b o ds->∀n,du w J b o (ds.take n)
 | ds,o,h,0=>by simp [du]
 | [],o,h,n+1=>by simp [du]
 | x::xs,o,⟨h1,h4⟩,n+1=>⟨h1,du.take h4 n⟩
theorem bU.get {w:World} {J:Nat->Nat->Prop} {b k:Nat}:∀{xs:List (List Dat)} {o:Nat},bU w J b k o xs->∀i x,xs[i]? = some x->x.length=k/\du w J b (o+i * k) x
 | [],o,_,i,d,h=>by simp at h
 | y::ys,o,⟨h1,h2,h3⟩,i,d,h=>by
  cases i with
  | zero=>simp at h;subst h;exact ⟨h1,by simpa using h2⟩
  | succ i=>
   simp at h;have:=bU.get h3 i d h
   rwa [show o+k+i * k=o+(i+1) * k by rw [Y6];omega] at this
theorem aD.bX {c:Cx} {d:Dat} {v:Value} (h:aG c.w (Imm c) d v):aD c (V.bX d) v:=by
 cases d with
 | agg ds=>obtain ⟨vs,rfl,h2⟩:=h;exact ⟨vs,rfl,aC.ofL h2⟩
 | tuple ds=>
  obtain ⟨vs,rfl,h2⟩:=h;refine ⟨vs,rfl,?_⟩
  induction ds generalizing vs with
  | nil=>simpa [aQ,aC] using h2
  | cons x xs ih=>
   obtain ⟨v,vs',rfl,g1,g2⟩:=h2;refine ⟨v,vs',rfl,?_,ih vs' g2⟩
   cases x with
   | agg ds=>obtain ⟨us,rfl,h2⟩:=g1;exact ⟨us,rfl,aC.ofL h2⟩
   | _=>exact g1
 | _=>exact h
theorem wrap_in {k:IntKind} {n:Int} (h:inR k n=true):k.wrap n=n:=by
 cases k<;>simp [inR] at h<;>simp [IntKind.wrap,IntKind.bits,IntKind.signed]<;>omega
theorem ze {P:Program} {Q:az->St->Prop} {k:IntKind} {n:Int} {q:Int->Tree} (h:WT P Q (fit k n q)):WT P Q (q (k.wrap n)):=by
 unfold fit at h;simp only [WT] at h
 cases hb:inR k n with
 | true=>have:=h.1 hb;rwa [wrap_in hb]
 | false=>exact h.2 hb
theorem sW {c:Cx} {id ver off len k:Nat} {xs:List (List Dat)} {gv:Value} (hl:look c.heap id=some (.arr k xs)) (h:aD c (.ref id ver off len) gv):aG c.w (Imm c) (.slice k ((xs.drop off).take len) false) gv:=by
 simp only [aD,hl] at h;obtain ⟨h1,h⟩:=h;have hlen:((xs.drop off).take len).length=len:=by simp;omega
 rcases h with ⟨h2,h3,_⟩|⟨b,o,cap,h2,h3,h4,_⟩
 ·exact .inl ⟨⟨_,h2,by simp⟩,YZ (by omega)⟩
 ·exact .inr ⟨b,o,cap,by rw [hlen];exact h2,by rw [hlen];exact h3,by simp,h4⟩
theorem KA {c:Cx}:∀{vs:List V} {ds:List Dat} {us:List Value},V.dat.go c.heap vs=some ds->aC c vs us->aQ c.w (Imm c) ds us:=by
 intro vs
 induction vs with
 | nil=>intro ds us h r;simp [V.dat.go] at h;subst h;simpa [aQ,aC] using r
 | cons v vs ih=>
  intro ds us h r;obtain ⟨u,us',rfl,r1,r2⟩:=r;unfold V.dat.go at h
  split at h
  ·simp at *
  ·rename_i x rr heq
   simp only [Zu] at heq;obtain ⟨rfl,rfl⟩:=heq
   split at h
   ·rename_i l hl
    simp at h;subst h;exact ⟨u,us',rfl,r1,ih hl r2⟩
   ·simp at h
  ·rename_i id ver off len rr heq
   simp only [Zu] at heq;obtain ⟨rfl,rfl⟩:=heq
   split at h
   ·rename_i k xs l hl1 hl2
    simp at h;subst h;exact ⟨u,us',rfl,sW hl1 r1,ih hl2 r2⟩
   ·simp at h
  ·rename_i f rr heq
   simp only [Zu] at heq;obtain ⟨rfl,rfl⟩:=heq
   split at h
   ·rename_i l hl
    simp at h;subst h;obtain ⟨fs',vs',e1,e3,e2⟩:=r1;simp [aC] at e2 e3;subst e2 e3;exact ⟨u,us',rfl,e1,ih hl r2⟩
   ·simp at h
  ·simp at h
theorem yI {c:Cx} {v:V} {x:Dat} {gv:Value} (h:v.dat c.heap=some x) (r:aD c v gv):aG c.w (Imm c) x gv:=by
 cases v with
 | d y=>simp [V.dat] at h;subst h;exact r
 | agg cs=>
  simp only [V.dat,Pe] at h;obtain ⟨ds,h1,rfl⟩:=h;obtain ⟨us,rfl,h2⟩:=r;exact ⟨us,rfl,KA h1 h2⟩
 | ref id ver off len=>
  simp only [V.dat] at h
  split at h
  ·rename_i k xs hl
   simp at h;subst h;exact sW hl r
  ·simp at h
 | func f fs cap=>
  cases fs with
  | cons a b=>simp [V.dat] at h
  | nil=>
   cases cap with
   | nil=>
    simp [V.dat] at h;subst h;obtain ⟨fs',vs',e1,e3,e2⟩:=r;simp [aC] at e2 e3;subst e2 e3;exact e1
   | cons a b=>simp [V.dat] at h
 | _=>simp [V.dat] at h
theorem kX {c:Cx}:∀{vs:List V} {ds:List Dat} {us:List Value},kK c.heap vs=some ds->aC c vs us->aQ c.w (Imm c) ds us:=by
 intro vs
 induction vs with
 | nil=>intro ds us h r;simp [kK] at h;subst h;simpa [aQ,aC] using r
 | cons v vs ih=>
  intro ds us h r;obtain ⟨u,us',rfl,r1,r2⟩:=r;unfold kK at h
  split at h
  ·rename_i x l h1 h2
   simp at h;subst h;exact ⟨u,us',rfl,yI h1 r1,ih h2 r2⟩
  ·simp at h
end Uw
namespace Uw
open Go Go.RowKit
variable [Glob]
def bf (P:Program) (Q:az->St->Prop) (q:V->St->Tree) (c:Cx) (w0:World) (n:Nat) (gs:Fr) (st:St) (a:Act) (dst:Option Tmp) (K:Act->World->Prop):Prop:=
 ∀c' st' v gv,c'.B=c.B->c'.J0=c.J0->Rel c' w0 n gs st' a->st'.regs=st.regs->aD c' v gv->WT P Q (q v st')->K (a.put dst gv) c'.w
section
variable {P : Program} {Q : az -> St -> Prop} {q : V -> St -> Tree} {c : Cx} {w0 : World} {n : Nat} {gs : Fr} {st : St} {a : Act} {K : Act -> World -> Prop} {Qx : Exit -> Act -> World -> Prop} {o : Oper}
theorem aP (r:Rel c w0 n gs st a) (hK:bf P Q q c w0 n gs st a o.dst K) {v:V} {gv:Value} (hv:aD c v gv) (hq:WT P Q (q v st)) (h:(execOp a.eval o).run P c.w = .ok (.value gv) c.w):o.wp P a c.w K Qx:=
 bP h (hK c st v gv rfl rfl r rfl hv hq)
theorem MK (r:Rel c w0 n gs st a) (hK:bf P Q q c w0 n gs st a o.dst K) {x:Operand} {y:Opd} (ho:o.op = .move x\/o.op = .assign x) (hc:ao x=some y)
  (h:WT P Q (match y.ev st with|some v=>q v st|none=>.fail)):o.wp P a c.w K Qx:=by
 cases hv:y.ev st with
 | none=>rw [hv] at h;exact h.elim
 | some v=>
  rw [hv] at h;refine aP r hK (aF r hc hv) h ?_
  rcases ho with ho|ho<;>simp [execOp,ho,pure,Sem.run]
theorem Qm (r:Rel c w0 n gs st a) (hK:bf P Q q c w0 n gs st a o.dst K) {x1 x2 x3:Operand} {y1 y2 y3:Opd} (ho:o.op = .pick x1 x2 x3) (h1:ao x1=some y1) (h2:ao x2=some y2) (h3:ao x3=some y3)
  {xx:az->St->Tree} (h:WT P Q (step (.pick y1 y2 y3) st q xx)):o.wp P a c.w K Qx:=by
 simp only [step,al,ay,aA] at h
 split at h
 ·rename_i t ht
  have e1:=aF r h1 ht;simp only [aD,aG] at e1;obtain ⟨g1,g2⟩:=h;have key:∀b:Bool,t=b->o.wp P a c.w K Qx:=by
   intro b hb
   cases b with
   | true=>
    have g:=g1 hb
    cases hv:y2.ev st with
    | none=>rw [hv] at g;exact g.elim
    | some v=>
     rw [hv] at g;refine aP r hK (aF r h2 hv) g ?_;simp [execOp,ho,e1,hb,asBool,pure,Bind.bind,Sem.bind,Sem.run]
   | false=>
    have g:=g2 hb
    cases hv:y3.ev st with
    | none=>rw [hv] at g;exact g.elim
    | some v=>
     rw [hv] at g;refine aP r hK (aF r h3 hv) g ?_;simp [execOp,ho,e1,hb,asBool,pure,Bind.bind,Sem.bind,Sem.run]
  exact key t rfl
 ·exact h.elim
theorem uZ (r:Rel c w0 n gs st a) {cs:List V} {vs:Array Value} {e:TypeId} (h:aC c cs vs.toList) :
  Rel (c.push st.next 0 (.var cs) (.cells vs e)) w0 n gs (dY st (.var cs)) a:=
 r.push (by
  refine ⟨vs,e,?_,aC.evo (Evo.push r.hrel) _ _ h⟩;show (c.w.heap.push (.cells vs e))[((c.push st.next 0 (.var cs) (.cells vs e)).pl st.next).gb]? = _;simp [Cx.push])
theorem Fv (st:St) (cs:List V) (o:Obj):aD (c.push st.next 0 (.var cs) o) (.ptr st.next 0) (.pointer (some ⟨c.w.heap.size,0,none⟩)):=by
 refine ⟨⟨cs,by simp [Cx.push,aE]⟩,?_⟩;simp [Cx.push]
theorem TV (r:Rel c w0 n gs st a) (hK:bf P Q q c w0 n gs st a o.dst K) {t:TypeId} {x:Operand} {y:Opd} (ho:o.op = .box t x) (hc:ao x=some y)
  {xx:az->St->Tree} (h:WT P Q (step (.box y) st q xx)):o.wp P a c.w K Qx:=by
 simp only [step,al,ay,aA] at h
 split at h
 ·rename_i v hv
  have e1:=nr (aF r hc hv) (xW hv);refine bP (w':=c.w.alloc (.cells (a.eval x).cells t)) ?_ (hK (c.push st.next 0 (.var v.cells) (.cells (a.eval x).cells t)) _ _ _ rfl rfl (uZ r e1) rfl (Fv st _ _) h);simp [execOp,ho,Instr.box,newVar,newRow,newObj,pure,Bind.bind,Sem.bind,Sem.run]
 ·exact h.elim
theorem ML (r:Rel c w0 n gs st a) (hK:bf P Q q c w0 n gs st a o.dst K) {t:TypeId} {zs:List Dat} (ho:o.op = .alloc t) (hz:lX P t=some zs)
  {xx:az->St->Tree} (h:WT P Q (step (.alloc zs) st q xx)):o.wp P a c.w K Qx:=by
 simp only [step,al,ay,aA] at h;obtain ⟨v,hv,hd⟩:=uX (w:=c.w) hz;refine bP (w':=c.w.alloc (.cells v.cells t)) ?_ (hK (c.push st.next 0 (.var (zs.map V.d)) (.cells v.cells t)) _ _ _ rfl rfl (uZ r (aC.ofL (fh hd _ _))) rfl (Fv st _ _) h);have:(Instr.alloc t true (.tuple #[])).run P c.w = .ok (.pointer (some ⟨c.w.heap.size,0,none⟩)) (c.w.alloc (.cells v.cells t)):=by
  unfold Instr.alloc;rw [run_bind_ok hv];simp [newVar,newRow,newObj,pure,Bind.bind,Sem.bind,Sem.run]
 simp only [execOp,ho];rw [run_bind_ok this];rfl
end
end Uw
namespace Uw
open Go Go.RowKit
variable [Glob]
theorem wF (off:Nat):∀(us:List Value) (j:Nat) (cs:Array Value),(us.zipIdx j).foldl (fun cs (p:Value×Nat)=>cs.setIfInBounds (off+p.2) p.1) cs=fS cs (off+j) us
 | [],j,cs=>rfl
 | u::us,j,cs=>by
  rw [List.zipIdx_cons,aag,wF off us (j+1),fS];rfl
theorem aC.wI {c:Cx} {x:V} {v:Value} (h:aD c x v) (hx:x≠.undef):v.cells.size=x.cells.length:=by
 have:=(nr h hx).length;simpa using this
section
variable {P : Program} {Q : az -> St -> Prop} {q : V -> St -> Tree} {c : Cx} {w0 : World} {n : Nat} {gs : Fr} {st : St} {a : Act} {K : Act -> World -> Prop} {Qx : Exit -> Act -> World -> Prop} {o : Oper} {xx : az -> St -> Tree}
theorem Fz (r:Rel c w0 n gs st a) {place:Nat->Option (Nat×Nat)}:∀(ps:List (Nat×Operand)) (qs:List (Nat×Nat×Opd)) (cs cs' : List V) (vs:Array Value),iZ place ps=some qs->
  aC c cs vs.toList->ei st cs qs=some cs'->∃vs',Instr.fill place vs (ps.map fun (i,x)=>(i,a.eval x))=some vs'/\aC c cs' vs'.toList:=by
 intro ps
 induction ps with
 | nil=>
  intro qs cs cs' vs h1 h2 h3;simp [iZ] at h1;subst h1;simp [ei] at h3;subst h3;exact ⟨vs,rfl,h2⟩
 | cons p ps ih=>
  intro qs cs cs' vs h1 h2 h3;obtain ⟨i,x⟩:=p;simp only [iZ] at h1
  split at h1
  ·rename_i off n' o' l hp ho hl
   simp at h1;subst h1;simp only [ei] at h3
   split at h3
   ·rename_i v hv
    split at h3
    ·rename_i hb
     rw [i9] at hb;have hb1:=wt hb.1;have hb2:=Y0 hb.2;have hr:=aF r ho hv;have hcl:=aC.wI hr (xW hv);have hlen:=h2.length;obtain ⟨vs',g1,g2⟩:=ih l _ cs' (fS vs off (a.eval x).cells.toList) hl (aC.setAt (nr hr (xW hv)) off h2) h3;refine ⟨vs',?_,g2⟩;simp only [ZD,Instr.fill,hp];have hsz:vs.size=cs.length:=by simpa using hlen
     rw [if_neg (by simp;omega)];have e:=wF off (a.eval x).cells.toList 0 vs;simp only [ZR] at e;rw [<- aaK,Array.toList_zipIdx,e];exact g1
    ·simp at h3
   ·simp at h3
  ·simp at h1
theorem MN (r:Rel c w0 n gs st a) (hK:bf P Q q c w0 n gs st a o.dst K) {t:TypeId} {ps:Array (Nat×Operand)} {place:Nat->Option (Nat×Nat)} {zs:List Dat} {qs:List (Nat×Nat×Opd)} (ho:o.op = .build t ps)
  (hp:H4 P t=some place) (hz:lX P t=some zs) (hq:iZ place ps.toList=some qs) (h:WT P Q (step (.build zs qs) st q xx)):o.wp P a c.w K Qx:=by
 simp only [step,al,ay,aA] at h
 split at h
 ·rename_i cs hcs
  unfold lX at hz
  split at hz
  ·rename_i i hi
   split at hz
   ·rename_i z hzero
    obtain ⟨vs',g1,g2⟩:=Fz r ps.toList qs _ cs z.cells hq (aC.ofL (fh hz _ _)) hcs;have hb:P.built t (ps.map fun (i,x)=>(i,a.eval x)).toList=some vs':=by
     unfold Program.built;unfold H4 at hp;rw [hi] at hp ⊢
     split at hp
     ·rename_i e hu h2
      split at hp
      ·rename_i ie hie
       simp at hp;subst hp;simp only [h2,hzero,hie];simpa using g1
      ·simp at hp
     ·rename_i fs hu h2
      split at hp
      ·rename_i places hpl
       simp at hp;subst hp;simp only [h2,hzero,hpl];simpa using g1
      ·simp at hp
     ·simp at hp
    refine aP r hK (v:=.agg cs) (gv:=.agg vs') ⟨vs'.toList,by simp,g2⟩ h ?_;simp only [execOp,ho];rw [run_bind_ok (run_build c.w t _ vs' hb)];rfl
   ·simp at hz
  ·simp at hz
 ·exact h.elim
theorem uf {t:TypeId} {v:Value} {b o:Nat} {u:Value} {w:World} (hv:v = .pointer (some ⟨b,o,none⟩)) (h:(loadVar t ⟨b,o,none⟩).run P w = .ok u w):(Instr.loadAt t v).run P w = .ok u w:=by
 subst hv;unfold Instr.loadAt;rw [run_bind_ok (s:=Instr.sureAddr _) (x:=⟨b,o,none⟩) (w':=w) rfl];exact h
theorem aQ.drop {w:World} {J:Nat->Nat->Prop}:∀{xs:List Dat} {vs:List Value},aQ w J xs vs->∀n,aQ w J (xs.drop n) (vs.drop n):=by
 intro xs
 induction xs with
 | nil=>intro vs hh n;simp [aQ] at hh;subst hh;simp [aQ]
 | cons y ys ih=>
  intro vs hh n;obtain ⟨v,vs',rfl,h2,h3⟩:=hh
  cases n with
  | zero=>exact ⟨v,vs',rfl,h2,h3⟩
  | succ n=>simpa using ih h3 n
theorem aQ.take {w:World} {J:Nat->Nat->Prop}:∀{xs:List Dat} {vs:List Value},aQ w J xs vs->∀n,aQ w J (xs.take n) (vs.take n):=by
 intro xs
 induction xs with
 | nil=>intro vs hh n;simp [aQ] at hh;subst hh;simp [aQ]
 | cons y ys ih=>
  intro vs hh n;obtain ⟨v,vs',rfl,h2,h3⟩:=hh
  cases n with
  | zero=>simp [aQ]
  | succ n=>exact ⟨v,vs'.take n,rfl,h2,ih h3 n⟩
theorem ug {α:Type} {k:Nat}:∀{xs:List (List α)} (h:∀x∈xs,x.length=k) {i:Nat} {cs:List α},xs[i]? = some cs->(xs.flatten.drop (i * k)).take k=cs
 | [],_,i,cs,hi=>by simp at hi
 | x::xs,h,i,cs,hi=>by
  have hx:=h x (by simp)
  cases i with
  | zero=>simp at hi;subst hi;simp [hx]
  | succ i=>
   simp at hi;rw [Zk,show (i+1) * k=k+i * k by rw [Y6];omega,<- hx,aaZ];have:=ug (fun y hy=>h y (by simp [hy])) hi;rw [hx];exact this
theorem fe {α:Type} {k:Nat}:∀{xs:List (List α)} (h:∀x∈xs,x.length=k),xs.flatten.length=xs.length * k
 | [],_=>by simp
 | x::xs,h=>by
  rw [Zk,Zs,h x (by simp),fe (fun y hy=>h y (by simp [hy])),Y7,Y6];omega
theorem MO {w:World} {J:Nat->Nat->Prop} {b:Nat} {vs:Array Value} {e:TypeId} {cap k i:Nat} {xs:List (List Dat)} {cs:List Dat} (h1:w.heap[b]? = some (.cells vs e (0,0))) (h2:vs.size=cap * k) (h3:xs.length<=cap) (h4:∀x∈xs,x.length=k)
  (h5:aQ w J xs.flatten (vs.toList.take (xs.length * k))) (hi:xs[i]? = some cs):∃us:List Value,aQ w J cs us/\∀j v,us[j]? = some v->w.cell? ⟨b,i * k+j,none⟩=some v:=by
 have h6:=(h5.drop (i * k)).take k;rw [ug h4 hi] at h6;refine ⟨_,h6,?_⟩;intro j v hv;rw [bO h1];rw [ON] at hv
 split at hv
 ·rw [Y1,ON] at hv
  split at hv
  ·simpa using hv
  ·simp at hv
 ·simp at hv
theorem Jm (r:Rel c w0 n gs st a) (hK:bf P Q q c w0 n gs st a o.dst K) {t:TypeId} {x:Operand} {y:Opd} {g:Bool} {m:Nat} (ho:o.op = .load t x) (hg:jq P t=some g) (hm:sizeT P t=some m) (hc:ao x=some y)
  (h:WT P Q (step (.load g m y) st q xx)):o.wp P a c.w K Qx:=by
 simp only [step,al,ay,aA] at h
 split at h
 ·rename_i id off hv
  split at h
  ·rename_i cs hl
   split at h
   ·rename_i hle
    have hle:=Y0 hle
    split at h
    ·rename_i v hmk
     have e1:=aF r hc hv;obtain ⟨⟨cs0,e2⟩,e3⟩:=e1;have hl' : look c.heap id=some (.var cs):=by rw [r.heap];exact hl
     obtain ⟨vs,e,h1,h2⟩:=r.hrel.blk id _ hl';have hlen:=h2.length;have h3:=(h2.drop off).take m;obtain ⟨u,hu,hru⟩:=pU h3 hmk;refine aP r hK hru h ?_;simp only [execOp,ho];rw [run_bind_ok (uf e3 (oL hg hm ?_ hu ?_))]
     ·rfl
     ·simp at hlen ⊢;omega
     ·intro j x hx
      rw [bO h1];rw [ON] at hx
      split at hx
      ·simpa using hx
      ·simp at hx
    ·exact h.elim
   ·exact h.elim
  ·exact h.elim
 ·rename_i cs off hv
  split at h
  ·rename_i hle
   have hle:=Y0 hle
   split at h
   ·rename_i v hmk
    have e1:=aF r hc hv;obtain ⟨b,o',e2,e3⟩:=e1;obtain ⟨vs,g1,g2⟩:=du.vals ((e3.drop off).take m);obtain ⟨u,hu,hru⟩:=pU (aC.ofL g1) hmk;refine aP r hK hru h ?_;simp only [execOp,ho];rw [run_bind_ok (uf e2 (oL hg hm ?_ hu g2))]
    ·rfl
    ·rw [g1.length];simp;omega
   ·exact h.elim
  ·exact h.elim
 ·rename_i id ver i cc hv
  split at h
  ·rename_i k c8 xs hl
   simp only [WT] at h
   cases hbv:Nat.beq ver c8 with
   | false=>exact (h.2 hbv).elim
   | true=>
    have hg:=h.1 hbv;clear h;have hb:=wt hbv;subst hb;obtain ⟨cs,hcs,h⟩:=hg
    split at h
    ·rename_i hle
     have hle:=Y0 hle
     split at h
     ·rename_i v hmk
      have e1:=aF r hc hv;have hl' : look c.heap id=some (.mt k ver xs):=by rw [r.heap];exact hl
      simp only [aD,hl'] at e1;obtain ⟨_,_,e2⟩:=e1;obtain ⟨e3,e4⟩:=e2 rfl;obtain ⟨b3,b4,bb⟩:=r.hrel.blk id _ hl';obtain ⟨vs,e,b1,b2,b5,b6⟩:=bb (by omega);obtain ⟨us,g1,g2⟩:=MO b1 b2 b3 b4 b5 hcs;have g3:aQ c.w (Imm c) ((cs.drop cc).take m) ((us.drop cc).take m):=(g1.drop cc).take m;obtain ⟨u,hu,hru⟩:=pU (aC.ofL g3) hmk;refine aP r hK hru h ?_;simp only [execOp,ho];rw [run_bind_ok (uf e4 (oL hg hm ?_ hu ?_))]
      ·rfl
      ·rw [g3.length];simp;omega
      ·intro j x hx
       rw [ON] at hx
       split at hx
       ·rw [Y1] at hx
        have:=g2 (cc+j) x hx;rw [show i * k+cc+j=i * k+(cc+j) by omega];exact this
       ·simp at hx
     ·exact h.elim
    ·exact h.elim
  ·exact h.elim
 ·exact h.elim
theorem Laid.below {w w' : World} {b:Nat} {vs:Array Value} {e:TypeId} (h:Laid w w' b vs e) {B:Nat} (hB:B<=b):Below B w w':=
 ⟨h.os,h.tape,h.output,by rw [h.size];exact Ls _,fun k hk=>h.other k (by omega)⟩
theorem fj {α:Type}:∀(ys xs:List α) (i:Nat),(setAt xs i ys).length=xs.length
 | [],xs,i=>rfl
 | y::ys,xs,i=>by rw [setAt,fj ys];simp
theorem pV {α:Type} {x:α}:∀{ys xs:List α} {i:Nat},x∈setAt xs i ys->x∈xs\/x∈ys
 | [],xs,i,h=>.inl h
 | y::ys,xs,i,h=>by
  rw [setAt] at h
  rcases pV h with h|h
  ·rcases Zh h with h|h
   ·exact .inl h
   ·exact .inr (by simp [h])
  ·exact .inr (by simp [h])
theorem fk:∀(us:List Value) (vs:Array Value) (o:Nat),(fS vs o us).toList=setAt vs.toList o us
 | [],vs,o=>rfl
 | u::us,vs,o=>by rw [fS,setAt,fk us,aa4]
theorem i7 {α:Type}:∀(ys xs:List α) (i j:Nat),(setAt xs i ys)[j]? = if i<=j/\j<i+ys.length/\j<xs.length then ys[j - i]? else xs[j]?
 | [],xs,i,j=>by rw [setAt,if_neg (by simp;omega)]
 | y::ys,xs,i,j=>by
  rw [setAt,i7 ys];simp only [ZU,aap,Y7];by_cases h1:i=j
  ·subst h1
   by_cases h2:i<xs.length
   ·simp [h2];omega
   ·simp [h2]
  ·by_cases h2:i+1<=j/\j<i+1+ys.length/\j<xs.length
   ·rw [if_pos h2,if_pos (by omega),show j - i=(j - (i+1))+1 by omega];simp
   ·rw [if_neg h2,if_neg h1,if_neg (by omega)]
theorem aQ.setAt {w:World} {J:Nat->Nat->Prop} {xs ys:List Dat} {vs us:List Value} (h:aQ w J xs vs) (h2:aQ w J ys us) (i:Nat):aQ w J (setAt xs i ys) (Uw.setAt vs i us):=by
 have set1:∀{xs:List Dat} {vs:List Value},aQ w J xs vs->∀(i:Nat) {x:Dat} {v:Value},aG w J x v->aQ w J (xs.set i x) (vs.set i v):=by
  intro xs
  induction xs with
  | nil=>intro vs hh i x v _;simp [aQ] at hh;subst hh;simp [aQ]
  | cons y ys ih=>
   intro vs hh i x v h;obtain ⟨u,vs',rfl,h2,h3⟩:=hh
   cases i with
   | zero=>exact ⟨v,vs',rfl,h,h3⟩
   | succ i=>exact ⟨u,vs'.set i v,rfl,h2,ih h3 i h⟩
 induction ys generalizing xs vs us i with
 | nil=>simp [aQ] at h2;subst h2;simpa [Uw.setAt] using h
 | cons y ys ih=>
  obtain ⟨u,us',rfl,g1,g2⟩:=h2;rw [Uw.setAt,Uw.setAt];exact ih (set1 h i g1) g2 (i+1)
theorem rO {α:Type} {k:Nat}:∀{xs:List (List α)} (h:∀x∈xs,x.length=k) {i cc:Nat} {cs ds:List α},xs[i]? = some cs->cc+ds.length<=k->(xs.set i (setAt cs cc ds)).flatten=setAt xs.flatten (i * k+cc) ds:=by
 intro xs h i cc cs ds hi hle;have hsl:(setAt cs cc ds).length=cs.length:=fj _ _ _;have hcs:cs.length=k:=h cs (Zf hi);apply ZW;intro j;rw [i7]
 induction xs generalizing i j with
 | nil=>simp at hi
 | cons x xs ih=>
  have hx:=h x (by simp);have hxs:∀y∈xs,y.length=k:=fun y hy=>h y (by simp [hy])
  cases i with
  | zero=>
   simp at hi;subst hi;simp only [List.set_cons_zero,Zk,aaL,Y9];by_cases hj:j<k
   ·rw [ZB (by omega),i7]
    by_cases hc:cc<=j/\j<cc+ds.length
    ·rw [if_pos ⟨hc.1,hc.2,by omega⟩,if_pos ⟨hc.1,hc.2,by simp;omega⟩]
    ·rw [if_neg (by omega),if_neg (by omega),ZB (by omega)]
   ·rw [ZA (by omega),if_neg (by omega),ZA (by omega),hsl]
  | succ i=>
   simp at hi;simp only [List.set_cons_succ,Zk];have e:(i+1) * k=k+i * k:=by rw [Y6];omega
   by_cases hj:j<k
   ·rw [ZB (by omega),if_neg (by omega),ZB (by omega)]
   ·rw [ZA (by omega),ih hxs hi (j - x.length)]
    simp only [Zs];by_cases hc:i * k+cc<=j - x.length/\j - x.length<i * k+cc+ds.length/\j - x.length<xs.flatten.length
    ·rw [if_pos hc,if_pos (by omega)]
     congr 1
     omega
    ·rw [if_neg hc,if_neg (by omega),ZA (by omega)]
theorem qz {α:Type} (xs ys:List α) (i n:Nat) (h:i+ys.length<=n):(setAt xs i ys).take n=setAt (xs.take n) i ys:=by
 apply ZW;intro j;rw [ON,i7,i7,ON];simp only [aau];by_cases hj:j<n
 ·rw [if_pos hj,if_pos hj]
  by_cases hc:i<=j/\j<i+ys.length/\j<xs.length
  ·rw [if_pos hc,if_pos (by omega)]
  ·rw [if_neg hc,if_neg (by omega)]
 ·rw [if_neg hj,if_neg (by omega),if_neg hj]
theorem TW {w:World} {J:Nat->Nat->Prop} {vs:Array Value} {cap k i cc:Nat} {xs:List (List Dat)} {cs ds:List Dat} {us:List Value} (h2:vs.size=cap * k) (h3:xs.length<=cap) (h4:∀x∈xs,x.length=k)
  (h5:aQ w J xs.flatten (vs.toList.take (xs.length * k))) (hi:xs[i]? = some cs) (h6:aQ w J ds us) (hle:cc+ds.length<=k) :
  aQ w J (xs.set i (setAt cs cc ds)).flatten ((fS vs (i * k+cc) us).toList.take ((xs.set i (setAt cs cc ds)).length * k)):=by
 have hilt:i<xs.length:=by
  by_cases hh:i<xs.length
  ·exact hh
  ·rw [Y2 (by omega)] at hi;cases hi
 have hik:(i+1) * k<=xs.length * k:=Y5 _ (by omega);have hik' : i * k+k=(i+1) * k:=by rw [Y6];omega
 rw [rO h4 hi hle,fk,ZU,qz _ _ _ _ (by rw [h6.length];omega)];exact aQ.setAt h5 h6 _
theorem FA (r:Rel c w0 n gs st a) (hK:bf P Q q c w0 n gs st a o.dst K) {t:TypeId} {x1 x2:Operand} {y1 y2:Opd} {m:Nat} (ho:o.op = .store t x1 x2) (hm:sizeT P t=some m) (hc1:ao x1=some y1) (hc2:ao x2=some y2)
  (h:WT P Q (step (.store m y1 y2) st q xx)):o.wp P a c.w K Qx:=by
 simp only [step,al,ay,aA] at h
 split at h
 ·rename_i id off v hv1 hv2
  split at h
  ·rename_i cs hl
   split at h
   ·rename_i hb
    rw [i9,i9] at hb;have hb1:=wt hb.1.1;have hb2:=Y0 hb.1.2;have hb3:=hb.2;obtain ⟨⟨cs0,_⟩,e3⟩:=aF r hc1 hv1;have e4:=aF r hc2 hv2;have e5:=nr e4 (xW hv2);have hl' : look c.heap id=some (.var cs):=by rw [r.heap];exact hl
    obtain ⟨vs,e,h1,h2⟩:=r.hrel.blk id _ hl';have hlen:=h2.length;have hcl:=aC.wI e4 (xW hv2);have hone:∀u∈(a.eval x2).cells.toList,one u=true:=by
     intro u hu;obtain ⟨i,hi⟩:=aae hu;obtain ⟨z,hz,hzr⟩:=e5.get' i u hi;exact yH hzr (YW.1 hb3 z (Zf hz))
    obtain ⟨w',hw',L⟩:=uY (P:=P) (w:=c.w) hm (by omega) hone h1 (o:=off) (by simp at hlen;omega);have hev:=Evo.setVar (cs':=setAt cs off v.cells) r.hrel hl' L.other L.size;have hH:cz { c with heap:=(id,.var (setAt cs off v.cells))::c.heap,w:=w' } w0 st.next:=by
     refine r.hrel.setVar hl' (L.below (r.hrel.geB hl' trivial)) L.other L.size ?_;exact ⟨_,e,L.here,aC.evo hev _ _ (aC.setAt e5 off h2)⟩
    refine zb (w':=w') ?_ (hK { c with heap:=(id,.var (setAt cs off v.cells))::c.heap,w:=w' } { st with heap:=(id,.var (setAt cs off v.cells))::st.heap } .undef _ rfl rfl (r.evo hev (by simp [r.heap]) hH rfl rfl rfl (Ls _)) rfl (by simp [aD]) h);simp only [execOp,ho];have:(Instr.storeAt t (a.eval x1) (a.eval x2)).run P c.w = .ok () w':=by
     rw [e3];unfold Instr.storeAt;rw [run_bind_ok (s:=Instr.sureAddr _) (x:=⟨(c.pl id).gb,off,none⟩) (w':=c.w) rfl];exact hw'
    rw [run_bind_ok this];rfl
   ·exact h.elim
  ·exact h.elim
 ·rename_i id ver i cc v hv1 hv2
  split at h
  ·rename_i k c8 xs hl
   split at h
   ·rename_i ds hds
    simp only [WT] at h;have hbv:Nat.beq ver c8 = true:=by
     cases hbv:Nat.beq ver c8 with
     | false=>exact (h.2 hbv).elim
     | true=>rfl
    have hg:=h.1 hbv;clear h;have hb:=wt hbv;subst hb;obtain ⟨cs,hcs,h⟩:=hg
    split at h
    ·rename_i hb
     rw [i9,i9] at hb;have hb1:=wt hb.1.1;have hb2:=Y0 hb.1.2;have hb3:=hb.2;have hl' : look c.heap id=some (.mt k ver xs):=by rw [r.heap];exact hl
     have e3:=aF r hc1 hv1;simp only [aD,hl'] at e3;obtain ⟨_,_,e3⟩:=e3;obtain ⟨e3i,e3⟩:=e3 rfl;have e4:=aF r hc2 hv2;have e5:=nr e4 (xW hv2);rw [<- r.heap] at hds;have e6:=kX hds e5;obtain ⟨b3,b4,bb⟩:=r.hrel.blk id _ hl';have hcap:0<(c.pl id).cap:=by omega
     obtain ⟨vs,e,b1,b2,b5,b6⟩:=bb hcap;have hcl:=aC.wI e4 (xW hv2);have hdl:=e6.length;have XJ : (a.eval x2).cells.size=m:=by simp at hdl;omega
     have hone:∀u∈(a.eval x2).cells.toList,one u=true:=by
      intro u hu;obtain ⟨i,hi⟩:=aae hu;obtain ⟨z,hz,hzr⟩:=e5.get' i u hi;exact yH hzr (YW.1 hb3 z (Zf hz))
     have XK:cs.length=k:=b4 cs (Zf hcs);have hik:(i+1) * k<=(c.pl id).cap * k:=Y5 _ (by omega);have hik' : i * k+k=(i+1) * k:=by rw [Y6];omega
     obtain ⟨w',hw',L⟩:=uY (P:=P) (w:=c.w) hm XJ hone b1 (o:=i * k+cc) (by omega);have hgb:=r.hrel.geB hl' hcap;have hpl:c.pl=(c.aH id (.mt k ver (xs.set i (setAt cs cc ds))) (c.pl id) w').pl:=by
      funext z;simp only [Cx.aH];split
      ·rename_i hz;rw [hz]
      ·rfl
     have hev:Evo c (c.aH id (.mt k ver (xs.set i (setAt cs cc ds))) (c.pl id) w'):=by
      refine Evo.aH r.hrel hl' (fun k' _ hk'=>L.other k' (hk' hcap)) (by rw [L.size];exact Ls _) (.inl ⟨rfl,fun _=>hcap⟩) ?_ ⟨rfl,Ls _,fun _=>⟨rfl,by simp⟩⟩;intro _ o' hi;exfalso
      rcases hi with hi|⟨_,_,g3⟩
      ·exact r.hrel.ge id _ hl' hcap hi.1
      ·obtain ⟨_,_,hh,_⟩:=g3 id _ hl' hcap rfl;cases hh
     have XL:(setAt cs cc ds).length=k:=by rw [fj];exact XK
     have hH:cz (c.aH id (.mt k ver (xs.set i (setAt cs cc ds))) (c.pl id) w') w0 st.next:=by
      refine r.hrel.aH hl' hev (fun k' _ hk'=>L.other k' (hk' hcap)) (L.below hgb) (.inl ⟨rfl,fun _=>hcap⟩) ?_;refine ⟨by rw [af.2];simpa using b3,?_,fun _=>⟨fS vs (i * k+cc) (a.eval x2).cells.toList,e,?_,?_,?_,?_⟩⟩;rotate_left
      ·rw [af.2];exact L.here
      ·rw [af.2,nE];exact b2
      rotate_left 2
      ·intro x hx
       rcases Zh hx with hx|hx
       ·exact b4 x hx
       ·rw [hx];exact XL
      ·refine aQ.keep hev.keeps _ _ ?_
       exact TW b2 b3 b4 b5 hcs e6 (by omega)
      ·intro u hu
       rw [fk,ZU] at hu;have YI:(i+1) * k<=xs.length * k:=Y5 _ (by omega);rw [qz _ _ _ _ (by simp at hdl ⊢;omega)] at hu
       rcases pV hu with hu|hu
       ·exact b6 u hu
       ·exact hone u hu
     have hst:(c.aH id (.mt k ver (xs.set i (setAt cs cc ds))) (c.pl id) w').heap=(id,.mt k ver (xs.set i (setAt cs cc ds)))::st.heap:=by
      simp [Cx.aH,r.heap]
     refine zb (w':=w') ?_ (hK (c.aH id (.mt k ver (xs.set i (setAt cs cc ds))) (c.pl id) w') { st with heap:=(id,.mt k ver (xs.set i (setAt cs cc ds)))::st.heap } .undef _ rfl rfl (r.evo hev hst hH rfl rfl rfl (Ls _)) rfl (by simp [aD]) h);simp only [execOp,ho];have:(Instr.storeAt t (a.eval x1) (a.eval x2)).run P c.w = .ok () w':=by
      rw [e3];unfold Instr.storeAt;rw [run_bind_ok (s:=Instr.sureAddr _) (x:=⟨(c.pl id).gb,i * k+cc,none⟩) (w':=c.w) rfl];exact hw'
     rw [run_bind_ok this];rfl
    ·exact h.elim
   ·exact h.elim
  ·exact h.elim
 ·exact h.elim
end
end Uw
namespace Uw
open Go Go.RowKit
variable [Glob]
section
variable {P : Program} {Q : az -> St -> Prop} {q : V -> St -> Tree} {c : Cx} {w0 : World} {n : Nat} {gs : Fr} {st : St} {a : Act} {K : Act -> World -> Prop} {Qx : Exit -> Act -> World -> Prop} {o : Oper} {xx : az -> St -> Tree}
theorem rP {s:TypeId} {fs:Array Field} {f m b o' : Nat} {fd:Field} {v:Value} {w:World} (hu:P.underlying s=some (.struct fs)) (hf:fs[f]? = some fd) (hm:sizeT P fd.type=some (m+1)) (hv:v = .pointer (some ⟨b,o',none⟩)) :
  (Instr.fieldAt s v f).run P w = .ok (.pointer (some ⟨b,o' + fd.offset,none⟩)) w:=by
 subst hv;unfold Instr.fieldAt;rw [run_bind_ok (bq hu)];simp only [hf];rw [run_bind_ok (s:=Instr.sureAddr _) (x:=⟨b,o',none⟩) (w':=w) rfl];have:(fieldPlace ⟨b,o',none⟩ fd).run P w = .ok ⟨b,o' + fd.offset,none⟩ w:=by
  unfold fieldPlace;rw [run_bind_ok (eu hm)];simp only [Nat.add_one_ne_zero,if_false,addr_add];rfl
 rw [run_bind_ok this];rfl
theorem TX (r:Rel c w0 n gs st a) (hK:bf P Q q c w0 n gs st a o.dst K) {s:TypeId} {fs:Array Field} {f m:Nat} {fd:Field} {x:Operand} {y:Opd} (ho:o.op = .fieldAddr s x f)
  (hu:P.underlying s=some (.struct fs)) (hf:fs[f]? = some fd) (hm:sizeT P fd.type=some (m+1)) (hc:ao x=some y) (h:WT P Q (step (.fld fd.offset y) st q xx)):o.wp P a c.w K Qx:=by
 simp only [step] at h
 cases hv:y.ev st with
 | none=>rw [hv] at h;exact h.elim
 | some v=>
  rw [hv] at h;have e1:=aF r hc hv
  cases v with
  | ptr id o'=>
   obtain ⟨e2,e3⟩:=e1;refine aP r hK (v:=.ptr id (o' + fd.offset)) ⟨e2,rfl⟩ h ?_;simp only [execOp,ho];rw [run_bind_ok (rP hu hf hm e3)];rfl
  | ro cs o'=>
   obtain ⟨b,o2,e2,e3⟩:=e1;refine aP r hK (v:=.ro cs (o' + fd.offset)) (gv:=.pointer (some ⟨b,o2+o' + fd.offset,none⟩)) ⟨b,o2,by rw [aas],e3⟩ h ?_;simp only [execOp,ho];rw [run_bind_ok (rP hu hf hm e2)];rfl
  | kV id ver i cc=>
   have e2:jr c id ver i cc _ (look c.heap id):=e1;dsimp only at h
   split at h
   ·rename_i k' c8 xs hl
    simp only [WT] at h;have hbv:Nat.beq ver c8 = true:=by
     cases hbv:Nat.beq ver c8 with
     | false=>exact (h.2 hbv).elim
     | true=>rfl
    have hq:=h.1 hbv;have hb2:=wt hbv;subst hb2;have hl' : look c.heap id=some (.mt k' ver xs):=by rw [r.heap];exact hl
    rw [hl'] at e2;obtain ⟨_,_,e3⟩:=e2;obtain ⟨e4,e5⟩:=e3 rfl;refine aP r hK (v:=.kV id ver i (cc+fd.offset)) (gv:=.pointer (some ⟨(c.pl id).gb,i * k' + (cc+fd.offset),none⟩)) ?_ hq ?_
    ·simp only [aD,hl']
     exact ⟨Ls _,⟨_,rfl⟩,fun _=>⟨e4,rfl⟩⟩
    ·simp only [execOp,ho]
     rw [run_bind_ok (rP hu hf hm e5)];rw [aas];rfl
   ·exact h.elim
  | _=>exact h.elim
theorem MP (r:Rel c w0 n gs st a) (hK:bf P Q q c w0 n gs st a o.dst K) {x:Operand} {y:Opd} (ho:o.op = .nilCheck x) (hc:ao x=some y) (h:WT P Q (step (.xQ y) st q xx)):o.wp P a c.w K Qx:=by
 simp only [step] at h
 cases hv:y.ev st with
 | none=>rw [hv] at h;exact h.elim
 | some v=>
  rw [hv] at h;have e1:=aF r hc hv;have e1':=e1
  cases v with
  | ptr id o'=>
   obtain ⟨e2,e3⟩:=e1';refine aP r hK e1 h ?_;simp [execOp,ho,e3]
  | ro cs o'=>
   obtain ⟨b,o2,e2,e3⟩:=e1';refine aP r hK e1 h ?_;simp [execOp,ho,e2]
  | _=>exact h.elim
theorem run_indexAt_slice {t e:TypeId} {k b o' len cap:Nat} {ik:IntKind} {i:Int} {v u:Value} {w:World} (hu:P.underlying t=some (.slice e)) (hk:sizeT P e=some k) (hv:v = .slice (some ⟨b,o',none⟩) len cap) (hi:u = .int ik i)
  (h1:0<=i) (h2:i<len):(Instr.indexAt t v u).run P w = .ok (.pointer (some ⟨b,o' + i.toNat * k,none⟩)) w:=by
 subst hv hi;simp [Instr.indexAt,asIntOf,bq hu,eu hk,h1,h2,addr_add,pure,Sem.run]
theorem TY (r:Rel c w0 n gs st a) (hK:bf P Q q c w0 n gs st a o.dst K) {t e:TypeId} {k:Nat} {x i:Operand} {y j:Opd} (ho:o.op = .indexAddr t x i) (hu:P.underlying t=some (.slice e)) (hk:sizeT P e=some k)
  (hc1:ao x=some y) (hc2:ao i=some j) (h:WT P Q (step (.idx k y j) st q xx)):o.wp P a c.w K Qx:=by
 simp only [step] at h
 split at h
 ·rename_i k' xs z ik m hv1 hv2
  split at h
  ·rename_i hb
   have hb:=wt hb;subst hb;have e5:=aF r hc2 hv2;simp only [aD,aG] at e5;simp only [WT] at h;obtain ⟨g1,g2⟩:=h
   cases hb:(decide (0<=m)&&decide (m<(xs.length:Int))) with
   | false=>exact (g2 hb).elim
   | true=>
    obtain ⟨cs,hcs,hq⟩:=g1 hb;simp at hb;have e0:=aF r hc1 hv1;simp only [aD,aG] at e0
    rcases e0 with ⟨_,e0⟩|⟨b,o',cap,e1,e2,e3,e4⟩
    ·subst e0;simp at hcs
    obtain ⟨f1,f2⟩:=e4.get m.toNat cs hcs;refine aP r hK (v:=.ro cs 0) (gv:=.pointer (some ⟨b,o' + m.toNat * k,none⟩)) ⟨b,o' + m.toNat * k,rfl,f2⟩ hq ?_;simp only [execOp,ho];rw [run_bind_ok (run_indexAt_slice hu hk e1 e5 hb.1 hb.2)];rfl
  ·exact h.elim
 ·rename_i id ver off len ik m hv1 hv2
  have e1:=aF r hc1 hv1;have e5:=aF r hc2 hv2;simp only [aD,aG] at e5;simp only [aD] at e1;rw [r.heap] at e1
  split at h
  ·rename_i k' xs hl
   rw [hl] at e1
   split at h
   ·rename_i hb
    have hb:=wt hb;subst hb;obtain ⟨f1,e1⟩:=e1;simp only [WT] at h;obtain ⟨g1,g2⟩:=h
    cases hb:(decide (0<=m)&&decide (m<(len:Int))) with
    | false=>exact (g2 hb).elim
    | true=>
     obtain ⟨cs,hcs,hq⟩:=g1 hb;simp at hb
     rcases e1 with ⟨_,e1,_⟩|⟨b,o',cap,f2,f3,f4,f5⟩
     ·omega
     have hcs' : ((xs.drop off).take len)[m.toNat]? = some cs:=by
      rw [ON,if_pos (by omega),Y1];exact hcs
     obtain ⟨p1,p2⟩:=f4.get m.toNat cs hcs';refine aP r hK (v:=.ro cs 0) (gv:=.pointer (some ⟨b,o' + m.toNat * k,none⟩)) ⟨b,o' + m.toNat * k,rfl,p2⟩ hq ?_;simp only [execOp,ho];rw [run_bind_ok (run_indexAt_slice hu hk f2 e5 hb.1 hb.2)];rfl
   ·exact h.elim
  ·rename_i k' c8 xs hl
   rw [hl] at e1
   split at h
   ·rename_i hb
    have hb1:=wt hb;subst hb1;simp only [WT] at h;have hbv:Nat.beq ver c8 = true:=by
     cases hbv:Nat.beq ver c8 with
     | false=>exact (h.2 hbv).elim
     | true=>rfl
    have h3:=h.1 hbv;clear h;have hb2:=wt hbv;subst hb2;obtain ⟨f0,_,f1⟩:=e1;obtain ⟨f1,f2⟩:=f1 rfl;obtain ⟨g1,g2⟩:=h3
    cases hb:(decide (0<=m)&&decide (m<(len:Int))) with
    | false=>exact (g2 hb).elim
    | true=>
     have hq:=g1 hb;simp at hb;have hl' : look c.heap id=some (.mt k ver xs):=by rw [r.heap];exact hl
     obtain ⟨b3,b4,bb⟩:=r.hrel.blk id _ hl'
     rcases f2 with ⟨_,f2,_⟩|⟨b,o',f2,f3⟩
     ·omega
     obtain ⟨rfl,rfl⟩:=f3 (by omega);refine aP r hK (v:=.kV id ver (off+m.toNat) 0) (gv:=.pointer (some ⟨(c.pl id).gb,off * k+m.toNat * k,none⟩)) ?_ hq ?_
     ·simp only [aD,hl']
      refine ⟨Ls _,⟨_,rfl⟩,fun _=>⟨by omega,?_⟩⟩;rw [Y6];rfl
     ·simp only [execOp,ho]
      rw [run_bind_ok (run_indexAt_slice hu hk f2 e5 hb.1 hb.2)];rfl
   ·exact h.elim
  ·exact h.elim
 ·rename_i id len ik m hv1 hv2
  have e1:=aF r hc1 hv1;have e5:=aF r hc2 hv2;simp only [aD,aG] at e5;simp only [WT] at h;obtain ⟨g1,g2⟩:=h
  cases hb:(decide (0<=m)&&decide (m<(len:Int))) with
  | false=>exact (g2 hb).elim
  | true=>
   have hq:=g1 hb;simp at hb;obtain ⟨f1,f2,_⟩:=e1;refine aP r hK (v:=.ptr id (m.toNat * k)) (gv:=.pointer (some ⟨(c.pl id).gb,0+m.toNat * k,none⟩)) ⟨f1,by rw [Y9]⟩ hq ?_;simp only [execOp,ho];rw [run_bind_ok (run_indexAt_slice hu hk f2 e5 hb.1 hb.2)];rfl
 ·exact h.elim
theorem Qn (r:Rel c w0 n gs st a) (hK:bf P Q q c w0 n gs st a o.dst K) {t:TypeId} {x i:Operand} {y j:Opd} (ho:o.op = .index t x i) (hu:P.underlying t=some .string)
  (hc1:ao x=some y) (hc2:ao i=some j) (h:WT P Q (step (.idxs y j) st q xx)):o.wp P a c.w K Qx:=by
 simp only [step] at h
 split at h
 ·rename_i s ik m hv1 hv2
  have e1:=aF r hc1 hv1;have e5:=aF r hc2 hv2;simp only [aD,aG] at e1 e5;simp only [WT] at h;obtain ⟨g1,g2⟩:=h
  cases hb:(decide (0<=m)&&decide (m<(s.length:Int))) with
  | false=>exact (g2 hb).elim
  | true=>
   obtain ⟨ch,hch,hq⟩:=g1 hb;simp at hb;refine aP r hK (v:=.d (.int .u8 ch.toNat)) (gv:=.int .u8 ch.toNat) (by simp [aD,aG]) hq ?_;simp only [execOp,ho];have:(Instr.index t (a.eval x) (a.eval i)).run P c.w = .ok (.int .u8 ch.toNat) c.w:=by
    unfold Instr.index;rw [e1,e5];rw [run_bind_ok (s:=asIntOf _) (x:=(ik,m)) (w':=c.w) rfl];simp only [];rw [run_bind_ok (bq hu)];have hx:(⟨s.toArray⟩:ByteArray)[m.toNat]? = some ch:=by
     have h0:m.toNat<s.length:=by omega
     have:(⟨s.toArray⟩:ByteArray)[m.toNat]? = some ((⟨s.toArray⟩:ByteArray)[m.toNat]'(by simpa [ByteArray.size] using h0)):=by
      rw [getElem?_pos]
     rw [this];rw [AN h0] at hch;simpa [ByteArray.getElem_eq_getElem_data] using hch
    simp only [hb.1,if_true,hx];rfl
   rw [run_bind_ok this];rfl
 ·exact h.elim
theorem Qo {t:TypeId} {ts:Array TypeId} {ty:TypeId} {v:Value} {w:World} (ht:ts[0]? = some t) {m:Nat}
  (h:(∃e x cap,P.underlying t=some (.slice e)/\v = .slice x m cap)\/(∃s,P.underlying t=some .string/\v = .string s/\s.size=m)) :
  (Builtin.len_ ts ty #[v]).run P w = .ok (.int .i64 m) w:=by
 rcases h with ⟨e,x,cap,hu,rfl⟩|⟨s,hu,rfl,rfl⟩
 ·simp [Builtin.len_,ht,bq hu,goInt]
 ·simp [Builtin.len_,ht,bq hu,goInt]
end
end Uw
namespace Uw
open Go Go.RowKit
variable [Glob]
section
variable {P : Program} {Q : az -> St -> Prop} {q : V -> St -> Tree} {c : Cx} {w0 : World} {n : Nat} {gs : Fr} {st : St} {a : Act} {K : Act -> World -> Prop} {Qx : Exit -> Act -> World -> Prop} {o : Oper} {xx : az -> St -> Tree}
theorem dZ {cl:Call} {x:Operand} {t:TypeId} {m:Nat} {w:World} (ho:o.op = .call cl) (hb:cl.callee = .builtin .len) (hx:cl.args.toList=[x]) (ht:cl.argTypes.toList=[t])
  (h:(∃e y cap,P.underlying t=some (.slice e)/\a.eval x = .slice y m cap)\/(∃s,P.underlying t=some .string/\a.eval x = .string s/\s.size=m)) :
  (execOp a.eval o).run P w = .ok (.value (.int .i64 m)) w:=by
 obtain ⟨cal,args,ats⟩:=cl;simp only at hb hx ht;subst hb;have hx' : args = #[x]:=by rw [<- hx]
 have ht' : ats = #[t]:=by rw [<- ht]
 subst hx' ht';simp only [execOp,ho,resolve,invoke,builtin];have:=Qo (P:=P) (w:=w) (ty:=o.type) (ts:=#[t]) (v:=a.eval x) rfl h;simp [this]
theorem MQ (r:Rel c w0 n gs st a) (hK:bf P Q q c w0 n gs st a o.dst K) {cl:Call} {x:Operand} {t:TypeId} {y:Opd} {b:Bool} (ho:o.op = .call cl) (hb:cl.callee = .builtin .len) (hx:cl.args.toList=[x]) (ht:cl.argTypes.toList=[t])
  (hu:if b then P.underlying t=some .string else ∃e,P.underlying t=some (.slice e)) (hc:ao x=some y) (h:WT P Q (step (.len b y) st q xx)):o.wp P a c.w K Qx:=by
 cases b with
 | false=>
  simp only [Y4,if_false] at hu;obtain ⟨e,hu⟩:=hu;simp only [step] at h
  split at h
  ·rename_i k xs z hv
   have e0:=aF r hc hv;simp only [aD,aG] at e0
   rcases e0 with ⟨⟨_,e1,_⟩,rfl⟩|⟨b,o',cap,e1,_⟩
   ·exact aP r hK (v:=.d (.int .i64 ((0:Nat):Int))) (gv:=.int .i64 ((0:Nat):Int)) (by simp [aD,aG]) h (dZ (m:=0) ho hb hx ht (.inl ⟨e,_,_,hu,e1⟩))
   ·exact aP r hK (v:=.d (.int .i64 xs.length)) (by simp [aD,aG]) h (dZ ho hb hx ht (.inl ⟨e,_,_,hu,e1⟩))
  ·rename_i hv
   have e1:=aF r hc hv;simp only [aD,aG] at e1;exact aP r hK (v:=.d (.int .i64 0)) (gv:=.int .i64 ((0:Nat):Int)) (by simp [aD,aG]) h (dZ (m:=0) ho hb hx ht (.inl ⟨e,_,_,hu,e1⟩))
  ·rename_i id ver off len hv
   have e1:=aF r hc hv;simp only [aD] at e1;rw [r.heap] at e1
   split at h
   ·rename_i k xs hl
    rw [hl] at e1
    rcases e1 with ⟨_,⟨e2,rfl,_⟩|⟨b,o',cap,e2,_⟩⟩
    ·exact aP r hK (v:=.d (.int .i64 ((0:Nat):Int))) (gv:=.int .i64 ((0:Nat):Int)) (by simp [aD,aG]) h (dZ (m:=0) ho hb hx ht (.inl ⟨e,_,_,hu,e2⟩))
    exact aP r hK (v:=.d (.int .i64 len)) (by simp [aD,aG]) h (dZ ho hb hx ht (.inl ⟨e,_,_,hu,e2⟩))
   ·rename_i k c8 xs hl
    rw [hl] at e1;simp only [WT] at h
    cases hbq:Nat.beq ver c8 with
    | false=>exact (h.2 hbq).elim
    | true=>
     have h:=h.1 hbq;have hbq:=wt hbq;obtain ⟨_,_,e2⟩:=e1
     rcases e2 hbq with ⟨_,⟨e3,rfl,_⟩|⟨b,o',e3,_⟩⟩
     ·exact aP r hK (v:=.d (.int .i64 ((0:Nat):Int))) (gv:=.int .i64 ((0:Nat):Int)) (by simp [aD,aG]) h (dZ (m:=0) ho hb hx ht (.inl ⟨e,_,_,hu,e3⟩))
     ·exact aP r hK (v:=.d (.int .i64 len)) (by simp [aD,aG]) h (dZ ho hb hx ht (.inl ⟨e,_,_,hu,e3⟩))
   ·exact h.elim
  ·rename_i id len hv
   obtain ⟨_,e1,_⟩:=aF r hc hv;exact aP r hK (v:=.d (.int .i64 len)) (by simp [aD,aG]) h (dZ ho hb hx ht (.inl ⟨e,_,_,hu,e1⟩))
  ·exact h.elim
 | true=>
  simp only [if_true] at hu;simp only [step] at h
  split at h
  ·rename_i s hv
   have e1:=aF r hc hv;simp only [aD,aG] at e1;exact aP r hK (v:=.d (.int .i64 s.length)) (by simp [aD,aG]) h (dZ (m:=s.length) ho hb hx ht (.inr ⟨_,hu,e1,by simp [ByteArray.size]⟩))
  ·exact h.elim
theorem qA {op:BinOp} {t t' : TypeId} {x y:Operand} {u v:Value} {w:World} (ho:o.op = .binOp op t x y t') (hg:(eqGuard op t x y (a.eval x) (a.eval y)).run P w = .ok () w) (h:(binOp op t (a.eval x) (a.eval y)).run P w = .ok u w) :
  (execOp a.eval o).run P w = .ok (.value u) w:=by
 simp only [execOp,ho];simp [hg,h]
theorem KB {op:BinOp} {t:TypeId} {x y:Operand} {k k' : IntKind} {i j:Int} {w:World}:(eqGuard op t x y (.int k i) (.int k' j)).run P w = .ok () w:=by
 unfold eqGuard
 cases op<;>simp
theorem KC {op:BinOp} {t:TypeId} {x y:Operand} {i j:ByteArray} {w:World}:(eqGuard op t x y (.string i) (.string j)).run P w = .ok () w:=by
 unfold eqGuard
 cases op<;>simp
theorem zf {op:BinOp} {t:TypeId} {x y:Operand} {i j:Bool} {w:World}:(eqGuard op t x y (.bool i) (.bool j)).run P w = .ok () w:=by
 unfold eqGuard
 cases op<;>simp
theorem bytes_eq (s t:List UInt8):((⟨s.toArray⟩:ByteArray).toList == (⟨t.toArray⟩:ByteArray).toList)=decide (s=t):=by
 have:∀l:List UInt8,(⟨l.toArray⟩:ByteArray).toList=l:=by
  intro l;simp
 rw [this,this];rw [Zv];simp
theorem Qp {op:BinOp} {k:IntKind} {i j:Int} {Q:az->St->Prop} {f:Dat->Tree} {t:TypeId} {w:World} (h:WT P Q (lN op k i j f)) :
  ∃d gv,(binOp op t (.int k i) (.int k j)).run P w = .ok gv w/\(∀J,aG w J d gv)/\WT P Q (f d):=by
 cases op with
 | add=>exact ⟨.int k (k.wrap (i+j)),.int k (k.wrap (i+j)),by simp [binOp,Op.intArith],fun J=>by simp [aG],ze (q:=fun n=>f (.int k n)) h⟩
 | sub=>exact ⟨.int k (k.wrap (i - j)),.int k (k.wrap (i - j)),by simp [binOp,Op.intArith],fun J=>by simp [aG],ze (q:=fun n=>f (.int k n)) h⟩
 | mul=>exact ⟨.int k (k.wrap (i * j)),.int k (k.wrap (i * j)),by simp [binOp,Op.intArith],fun J=>by simp [aG],ze (q:=fun n=>f (.int k n)) h⟩
 | quo=>
  simp only [lN,WT] at h;by_cases hj:j=0
  ·exact (h.1 (by simp [hj])).elim
  ·exact ⟨.int k (k.wrap (i.tdiv j)),.int k (k.wrap (i.tdiv j)),by simp [binOp,Op.intDiv,hj],fun J=>by simp [aG],ze (q:=fun n=>f (.int k n)) (h.2 (by simp [hj]))⟩
 | rem=>
  simp only [lN,WT] at h;by_cases hj:j=0
  ·exact (h.1 (by simp [hj])).elim
  ·exact ⟨.int k (i.tmod j),.int k (i.tmod j),by simp [binOp,Op.intDiv,hj],fun J=>by simp [aG],h.2 (by simp [hj])⟩
 | eql=>exact ⟨_,.bool (decide (i=j)),by simp [binOp,Op.intCmp];rw [Zv];simp,fun J=>by simp [aG],h⟩
 | neq=>exact ⟨_,.bool (!decide (i=j)),by simp [binOp,Op.intCmp];rw [Zv];simp,fun J=>by simp [aG],h⟩
 | lss=>exact ⟨_,_,by simp [binOp,Op.intCmp];rfl,fun J=>by simp [aG],h⟩
 | leq=>exact ⟨_,_,by simp [binOp,Op.intCmp];rfl,fun J=>by simp [aG],h⟩
 | gtr=>exact ⟨_,_,by simp [binOp,Op.intCmp];rfl,fun J=>by simp [aG],h⟩
 | geq=>exact ⟨_,_,by simp [binOp,Op.intCmp];rfl,fun J=>by simp [aG],h⟩
 | shl=>exact h.elim
 | shr=>exact h.elim
 | and=>exact ⟨.int k (k.wrap (BitVec.ofInt k.bits i&&&BitVec.ofInt k.bits j).toNat),.int k (k.wrap (BitVec.ofInt k.bits i&&&BitVec.ofInt k.bits j).toNat),by simp only [binOp,ne_eq,not_true_eq_false,if_false,Op.intBits];rfl,fun J=>by simp only [aG],h⟩
 | or=>exact ⟨.int k (k.wrap (BitVec.ofInt k.bits i|||BitVec.ofInt k.bits j).toNat),.int k (k.wrap (BitVec.ofInt k.bits i|||BitVec.ofInt k.bits j).toNat),by simp only [binOp,ne_eq,not_true_eq_false,if_false,Op.intBits];rfl,fun J=>by simp only [aG],h⟩
 | xor=>exact ⟨.int k (k.wrap (BitVec.ofInt k.bits i ^^^ BitVec.ofInt k.bits j).toNat),.int k (k.wrap (BitVec.ofInt k.bits i ^^^ BitVec.ofInt k.bits j).toNat),by simp only [binOp,ne_eq,not_true_eq_false,if_false,Op.intBits];rfl,fun J=>by simp only [aG],h⟩
 | andNot=>exact ⟨.int k (k.wrap (BitVec.ofInt k.bits i&&&~~~BitVec.ofInt k.bits j).toNat),.int k (k.wrap (BitVec.ofInt k.bits i&&&~~~BitVec.ofInt k.bits j).toNat),by simp only [binOp,ne_eq,not_true_eq_false,if_false,Op.intBits];rfl,fun J=>by simp only [aG],h⟩
theorem Qq {op:BinOp} {s u:List UInt8} {Q:az->St->Prop} {f:Dat->Tree} {t:TypeId} {w:World} (h:WT P Q (mT op s u f)) :
  ∃d gv,(binOp op t (.string ⟨s.toArray⟩) (.string ⟨u.toArray⟩)).run P w = .ok gv w/\(∀J,aG w J d gv)/\WT P Q (f d):=by
 have hl:∀l:List UInt8,(⟨l.toArray⟩:ByteArray).toList=l:=by intro l;simp
 cases op with
 | add=>
  simp only [mT,WT] at h;by_cases hb:s.length+u.length<4611686018427387904
  ·refine ⟨.str (s++u),.string ⟨(s++u).toArray⟩,?_,fun J=>by simp [aG],h.1 (by simp [hb])⟩
   have h1:¬(((⟨s.toArray⟩:ByteArray).size+(⟨u.toArray⟩:ByteArray).size:Nat):Int)>IntKind.i64.max:=by
    simp [ByteArray.size,IntKind.max,IntKind.signed,IntKind.bits];omega
   simp only [binOp,Op.stringOp,h1,if_false];have:(⟨s.toArray⟩:ByteArray)++(⟨u.toArray⟩:ByteArray)=⟨(s++u).toArray⟩:=by
    apply ByteArray.ext;simp
   rw [this];rfl
  ·exact (h.2 (by simp;omega)).elim
 | eql=>exact ⟨_,.bool (decide (s=u)),by simp only [binOp,Op.stringOp,bytes_eq];rfl,fun J=>by simp [aG],h⟩
 | neq=>exact ⟨_,.bool (!decide (s=u)),by simp only [binOp,Op.stringOp,bytes_eq];rfl,fun J=>by simp [aG],h⟩
 | lss=>exact ⟨_,.bool (Op.bytesLess s u),by simp only [binOp,Op.stringOp,hl];rfl,fun J=>by simp [aG],h⟩
 | leq=>exact ⟨_,.bool (Op.bytesLess s u||decide (s=u)),by simp only [binOp,Op.stringOp,bytes_eq];simp only [hl];rfl,fun J=>by simp [aG],h⟩
 | gtr=>exact ⟨_,.bool (!(Op.bytesLess s u||decide (s=u))),by simp only [binOp,Op.stringOp,bytes_eq];simp only [hl];rfl,fun J=>by simp [aG],h⟩
 | geq=>exact ⟨_,.bool (!Op.bytesLess s u),by simp only [binOp,Op.stringOp,hl];rfl,fun J=>by simp [aG],h⟩
 | _=>exact h.elim
theorem MR (r:Rel c w0 n gs st a) (hK:bf P Q q c w0 n gs st a o.dst K) {op:BinOp} {t t' : TypeId} {x1 x2:Operand} {y1 y2:Opd} (ho:o.op = .binOp op t x1 x2 t') (hc1:ao x1=some y1) (hc2:ao x2=some y2)
  (h:WT P Q (step (.bin op y1 y2) st q xx)):o.wp P a c.w K Qx:=by
 simp only [step] at h
 split at h
 ·rename_i k i k' j hv1 hv2
  have e1:=aF r hc1 hv1;have e2:=aF r hc2 hv2;simp only [aD,aG] at e1 e2
  split at h
  ·rename_i hk
   have hk:k=k':=of_decide_eq_true hk;subst hk;obtain ⟨d,gv,g1,g2,g3⟩:=Qp (t:=t) (w:=c.w) h;refine aP r hK (v:=.d d) (g2 _) g3 (qA (v:=gv) ho ?_ ?_)
   ·rw [e1,e2];exact KB
   ·rw [e1,e2];exact g1
  ·exact h.elim
 ·rename_i s u hv1 hv2
  have e1:=aF r hc1 hv1;have e2:=aF r hc2 hv2;simp only [aD,aG] at e1 e2;obtain ⟨d,gv,g1,g2,g3⟩:=Qq (t:=t) (w:=c.w) h;refine aP r hK (v:=.d d) (g2 _) g3 (qA (v:=gv) ho ?_ ?_)
  ·rw [e1,e2];exact KC
  ·rw [e1,e2];exact g1
 ·exact h.elim
theorem run_equal_bool {t:TypeId} {i j:Bool} {w:World} (hu:P.underlying t=some .bool):(Op.equal t (.bool i) (.bool j)).run P w = .ok (i == j) w:=by
 have key:∀d,(Op.equalIn (d+1) t (.bool i) (.bool j)).run P w = .ok (i == j) w:=by
  intro d;simp [Op.equalIn,bq hu]
 exact key 9999
theorem jv (r:Rel c w0 n gs st a) (hK:bf P Q q c w0 n gs st a o.dst K) {op:BinOp} {t t' : TypeId} {x1 x2:Operand} {y1 y2:Opd} {neg:Bool} (ho:o.op = .binOp op t x1 x2 t') (hop:op=if neg then .neq else .eql) (hu:P.underlying t=some .bool)
  (hc1:ao x1=some y1) (hc2:ao x2=some y2) (h:WT P Q (step (.eqb neg y1 y2) st q xx)):o.wp P a c.w K Qx:=by
 simp only [step] at h
 split at h
 ·rename_i i j hv1 hv2
  have e1:=aF r hc1 hv1;have e2:=aF r hc2 hv2;simp only [aD,aG] at e1 e2
  cases neg with
  | true=>
   simp only [if_true] at hop;subst hop;refine aP r hK (gv:=.bool (i != j)) (by simp [aD,aG]) h (qA (v:=.bool true) ho ?_ ?_)
   ·rw [e1,e2];exact zf
   ·rw [e1,e2]
    simp only [binOp];rw [run_bind_ok (run_equal_bool hu)];rfl
  | false=>
   simp only [Y4,if_false] at hop;subst hop;refine aP r hK (gv:=.bool (i == j)) (by simp [aD,aG]) h (qA (v:=.bool true) ho ?_ ?_)
   ·rw [e1,e2];exact zf
   ·rw [e1,e2]
    simp only [binOp];rw [run_bind_ok (run_equal_bool hu)];rfl
 ·exact h.elim
theorem T8 (r:Rel c w0 n gs st a) (hK:bf P Q q c w0 n gs st a o.dst K) {t:TypeId} {x:Operand} {y:Opd} (ho:o.op = .unOp .not t x) (hc:ao x=some y) (h:WT P Q (step (.not y) st q xx)):o.wp P a c.w K Qx:=by
 simp only [step] at h
 split at h
 ·rename_i b hv
  have e1:=aF r hc hv;simp only [aD,aG] at e1;refine aP r hK (gv:=.bool (!b)) (by simp [aD,aG]) h ?_;simp [execOp,ho,e1,Op.unary]
 ·exact h.elim
theorem Qr (r:Rel c w0 n gs st a) (hK:bf P Q q c w0 n gs st a o.dst K) {s d:TypeId} {x:Operand} {y:Opd} {k k' : IntKind} (ho:o.op = .convert s d x) (hs:P.underlying s=some (.int k')) (hd:P.underlying d=some (.int k)) (hc:ao x=some y)
  (h:WT P Q (step (.conv k y) st q xx)):o.wp P a c.w K Qx:=by
 simp only [step] at h
 split at h
 ·rename_i k0 i hv
  have e1:=aF r hc hv;simp only [aD,aG] at e1;refine aP r hK (v:=.d (.int k (k.wrap i))) (gv:=.int k (k.wrap i)) (by simp [aD,aG]) (ze (q:=fun m=>q (.d (.int k m)) st) h) ?_;simp [execOp,ho,e1,convert,bq hs,bq hd,Conv.intToInt]
 ·exact h.elim
theorem T9 (r:Rel c w0 n gs st a) (hK:bf P Q q c w0 n gs st a o.dst K) {x:Operand} {y:Opd} {i:Nat} (ho:o.op = .extract x i) (hc:ao x=some y) (h:WT P Q (step (.ext y i) st q xx)):o.wp P a c.w K Qx:=by
 simp only [step] at h
 split at h
 ·rename_i vs hv
  obtain ⟨us,e1,e2⟩:=aF r hc hv
  split at h
  ·rename_i v hi
   obtain ⟨u,g1,g2⟩:=e2.get i v hi;refine aP r hK g2 h ?_;simp [execOp,ho,e1,Instr.extract,g1]
  ·exact h.elim
 ·exact h.elim
end
end Uw
namespace Uw
open Go Go.RowKit
variable [Glob]
theorem aQ.append {w:World} {J:Nat->Nat->Prop}:∀{xs ys:List Dat} {vs us:List Value},aQ w J xs vs->aQ w J ys us->aQ w J (xs++ys) (vs++us)
 | [],ys,vs,us,h1,h2=>by simp [aQ] at h1;subst h1;simpa using h2
 | x::xs,ys,vs,us,h1,h2=>by
  obtain ⟨v,vs',rfl,g1,g2⟩:=h1;exact ⟨v,vs'++us,rfl,g1,aQ.append g2 h2⟩
theorem du.flat {w:World} {J:Nat->Nat->Prop} {b:Nat}:∀{ds:List Dat} {o:Nat},du w J b o ds->∃us:List Value,aQ w J ds us/\(∀j v,us[j]? = some v->w.cell? ⟨b,o+j,none⟩=some v)/\∀v∈us,one v=true
 | [],o,_=>⟨[],rfl,by simp,by simp⟩
 | x::xs,o,h=>by
  obtain ⟨⟨v,h1,h2,h5,h3⟩,h4⟩:=h;obtain ⟨us,g1,g2,g3⟩:=du.flat h4;refine ⟨v::us,⟨v,us,rfl,h3,g1⟩,?_,?_⟩
  ·intro j u hu
   cases j with
   | zero=>simp at hu;subst hu;exact h1
   | succ j=>
    simp at hu;have:=g2 j u hu
    rwa [show o+1+j=o+(j+1) by omega] at this
  ·intro u hu
   simp at hu
   rcases hu with rfl|hu
   ·exact h5
   ·exact g3 u hu
theorem bU.flat {w:World} {J:Nat->Nat->Prop} {b k:Nat}:∀{xs:List (List Dat)} {o:Nat},bU w J b k o xs->(∀x∈xs,x.length=k)/\∃us:List Value,aQ w J xs.flatten us/\us.length=xs.length * k/\(∀j v,us[j]? = some v->w.cell? ⟨b,o+j,none⟩=some v)/\∀v∈us,one v=true
 | [],o,_=>⟨by simp,[],by simp [aQ],by simp,by simp,by simp⟩
 | x::xs,o,h=>by
  obtain ⟨h1,h2,h3⟩:=h;obtain ⟨us,g1,g2,g3⟩:=du.flat h2;obtain ⟨p1,vs,p2,p3,p4,p5⟩:=bU.flat h3;have hl:=g1.length;refine ⟨by intro y hy;simp at hy;rcases hy with rfl|hy;exact h1;exact p1 y hy,us++vs,?_,?_,?_,?_⟩
  ·rw [Zk];exact g1.append p2
  ·simp [p3,hl,h1,Y6];omega
  ·intro j v hv
   by_cases hj:j<us.length
   ·rw [ZB hj] at hv;exact g2 j v hv
   ·rw [ZA (by omega)] at hv
    have:=p4 (j - us.length) v hv
    rwa [show o+k+(j - us.length)=o+j by omega] at this
  ·intro v hv
   simp at hv
   rcases hv with hv|hv
   ·exact g3 v hv
   ·exact p5 v hv
theorem du.of_flat {w:World} {J:Nat->Nat->Prop} {b:Nat}:∀{ds:List Dat} {us:List Value} {o:Nat},aQ w J ds us->(∀j v,us[j]? = some v->w.cell? ⟨b,o+j,none⟩=some v/\J b (o+j)/\one v=true)->du w J b o ds
 | [],us,o,_,_=>trivial
 | d::ds,us,o,h,hc=>by
  obtain ⟨v,us',rfl,g1,g2⟩:=h;have h0:=hc 0 v rfl;refine ⟨⟨v,h0.1,h0.2.1,h0.2.2,g1⟩,du.of_flat g2 ?_⟩;intro j u hu;have:=hc (j+1) u (by simpa using hu)
  rwa [show o+(j+1)=o+1+j by omega] at this
theorem aQ.split {w:World} {J:Nat->Nat->Prop}:∀{xs ys:List Dat} {us:List Value},aQ w J (xs++ys) us->aQ w J xs (us.take xs.length)/\aQ w J ys (us.drop xs.length)
 | [],ys,us,h=>by simpa [aQ] using h
 | x::xs,ys,us,h=>by
  obtain ⟨v,us',rfl,g1,g2⟩:=h;obtain ⟨p1,p2⟩:=aQ.split g2;exact ⟨⟨v,_,rfl,g1,p1⟩,p2⟩
theorem bU.of_flat {w:World} {J:Nat->Nat->Prop} {b k:Nat}:∀{xs:List (List Dat)} {us:List Value} {o:Nat},(∀x∈xs,x.length=k)->aQ w J xs.flatten us->(∀j v,us[j]? = some v->w.cell? ⟨b,o+j,none⟩=some v/\J b (o+j)/\one v=true)->bU w J b k o xs
 | [],us,o,_,_,_=>trivial
 | x::xs,us,o,hk,h,hc=>by
  rw [Zk] at h;have hx:=hk x (by simp);obtain ⟨h1,h2⟩:=aQ.split h;refine ⟨hx,du.of_flat h1 ?_,bU.of_flat (fun y hy=>hk y (by simp [hy])) h2 ?_⟩
  ·intro j v hv
   rw [ON] at hv
   split at hv
   ·exact hc j v hv
   ·simp at hv
  ·intro j v hv
   rw [Y1] at hv;have:=hc (x.length+j) v hv
   rwa [show o+(x.length+j)=o+k+j by omega] at this
theorem u0 {α:Type} {k:Nat}:∀{xs:List (List α)} (h:∀x∈xs,x.length=k) (m:Nat),m<=xs.length->(xs.drop m).flatten=xs.flatten.drop (m * k)
 | xs,h,0,_=>by simp
 | [],h,m+1,hm=>by simp
 | x::xs,h,m+1,hm=>by
  have hx:=h x (by simp);rw [aaI,u0 (fun y hy=>h y (by simp [hy])) m (by simpa using hm),Zk,show (m+1) * k=x.length+m * k by rw [Y6,hx];omega,aaZ]
theorem jx {α:Type} {k:Nat}:∀{xs:List (List α)} (h:∀x∈xs,x.length=k) (m:Nat),m<=xs.length->(xs.take m).flatten=xs.flatten.take (m * k)
 | xs,h,0,_=>by simp
 | [],h,m+1,hm=>by simp
 | x::xs,h,m+1,hm=>by
  have hx:=h x (by simp);rw [aai,Zk,jx (fun y hy=>h y (by simp [hy])) m (by simpa using hm),Zk,show (m+1) * k=x.length+m * k by rw [Y6,hx];omega,List.take_length_add_append]
theorem nF {α:Type} {k:Nat} {xs:List (List α)} (h:∀x∈xs,x.length=k) (off len:Nat) (hle:off+len<=xs.length):((xs.drop off).take len).flatten=(xs.flatten.drop (off * k)).take (len * k):=by
 rw [jx (fun x hx=>h x (ZO hx)) len (by simp;omega),u0 h off (by omega)]
section
variable {P : Program} {Q : az -> St -> Prop} {q : V -> St -> Tree} {c : Cx} {w0 : World} {n : Nat} {gs : Fr} {st : St} {a : Act} {K : Act -> World -> Prop} {Qx : Exit -> Act -> World -> Prop} {o : Oper} {xx : az -> St -> Tree}
def FB (c:Cx) (k:Nat) (gv:Value) (ys:List (List Dat)):Prop:=
 ((∃x:Option Addr,gv = .slice x 0 0)/\ys=[])\/∃b o cp us,gv = .slice (some ⟨b,o,none⟩) ys.length cp/\ys.length<=cp/\(∀x∈ys,x.length=k)/\aQ c.w (Imm c) ys.flatten us/\us.length=ys.length * k/\
  (∀j v,us[j]? = some v->c.w.cell? ⟨b,o+j,none⟩=some v)/\∀v∈us,one v=true
theorem src_ok (r:Rel c w0 n gs st a) {k:Nat} {y:V} {gv:Value} {ys:List (List Dat)} {vb:Option Bool} (hy:aD c y gv) (h:MD st.heap k y=some (vb,ys)) (hvb:vb≠some false):FB c k gv ys:=by
 unfold MD at h
 split at h
 ·simp at h;obtain ⟨_,rfl⟩:=h
  exact .inl ⟨⟨_,hy⟩,rfl⟩
 ·rename_i k' xs z
  split at h
  ·rename_i hb
   have hb:=wt hb;simp at h;obtain ⟨_,rfl⟩:=h;subst hb;simp only [aD,aG] at hy
   rcases hy with hy|⟨b,o',cap,e1,e2,e3,e4⟩
   ·obtain ⟨⟨x,hx,_⟩,h0⟩:=hy;exact .inl ⟨⟨x,hx⟩,h0⟩
   obtain ⟨g1,us,g2,g3,g4,g5⟩:=bU.flat e4;exact .inr ⟨b,o',cap,us,e1,e2,g1,g2,g3,g4,g5⟩
  ·simp at h
 ·rename_i id ver off len
  simp only [aD] at hy;rw [r.heap] at hy
  split at h
  ·rename_i k' xs hl
   rw [hl] at hy
   split at h
   ·rename_i hb
    have hb:=wt hb;simp at h;obtain ⟨_,rfl⟩:=h;subst hb;obtain ⟨f1,hy⟩:=hy;have hlen:((xs.drop off).take len).length=len:=by simp;omega
    rcases hy with ⟨f2,f3,_⟩|⟨b,o',cap,f2,f3,f4,f5⟩
    ·exact .inl ⟨⟨_,f2⟩,YZ (by omega)⟩
    obtain ⟨g1,us,g2,g3,g4,g5⟩:=bU.flat f4;exact .inr ⟨b,o',cap,us,by rw [hlen];exact f2,by rw [hlen];exact f3,g1,g2,g3,g4,g5⟩
   ·simp at h
  ·rename_i k' c8 xs hl
   rw [hl] at hy
   split at h
   ·rename_i hb
    have hb1:=wt hb;simp only [Y8,ZM] at h;obtain ⟨h0,rfl⟩:=h;have hbv:Nat.beq ver c8 = true:=by
     cases hbv:Nat.beq ver c8 with
     | false=>rw [hbv] at h0;exact (hvb h0.symm).elim
     | true=>rfl
    have hb2:=wt hbv;subst hb1 hb2;obtain ⟨_,_,f⟩:=hy;obtain ⟨f1,f2⟩:=f rfl;have hl' : look c.heap id=some (.mt k ver xs):=by rw [r.heap];exact hl
    obtain ⟨b3,b4,bb⟩:=r.hrel.blk id _ hl';have hlen:((xs.drop off).take len).length=len:=by simp;omega
    rcases f2 with ⟨f2,f3,_⟩|⟨b,o',f2,f3⟩
    ·exact .inl ⟨⟨_,f2⟩,YZ (by omega)⟩
    by_cases hl0:len=0
    ·subst hl0
     refine .inr ⟨b,o',(c.pl id).cap - off,[],by simpa using f2,by simp,by simp,by simp [aQ],by simp,by simp,by simp⟩
    obtain ⟨vs,e,b1,b2,b5,b6⟩:=bb (by omega);have hfl:((xs.drop off).take len).flatten=(xs.flatten.drop (off * k)).take (len * k):=nF b4 off len (by omega);refine .inr ⟨b,o',(c.pl id).cap - off,((vs.toList.take (xs.length * k)).drop (off * k)).take (len * k),by rw [hlen];exact f2,by rw [hlen];omega,?_,?_,?_,?_,?_⟩
    ·intro x hx
     exact b4 x (ZO (Zi hx))
    ·rw [hfl];exact (b5.drop _).take _
    ·have h1:(off+len) * k<=xs.length * k:=Y5 _ f1
     have h2:xs.length * k<=vs.size:=by rw [b2];exact Y5 _ b3
     rw [Y6] at h1;rw [hlen];simp;omega
    ·intro j v hv
     rw [ON] at hv
     split at hv
     ·rename_i hj
      rw [Y1,ON] at hv
      split at hv
      ·have YD:0<len:=by
        rcases Nat.eq_zero_or_pos len with h0|h0
        ·subst h0;simp at hj
        ·exact h0
       obtain ⟨rfl,rfl⟩:=f3 (by omega);rw [bO b1];simpa using hv
      ·simp at hv
     ·simp at hv
    ·intro v hv
     exact b6 v (ZO (Zi hv))
   ·simp at h
  ·simp at h
 ·simp at h
end
end Uw
namespace Uw
open Go Go.RowKit
variable [Glob]
section
variable {P : Program} {Q : az -> St -> Prop} {q : V -> St -> Tree} {c : Cx} {w0 : World} {n : Nat} {gs : Fr} {st : St} {a : Act} {K : Act -> World -> Prop} {Qx : Exit -> Act -> World -> Prop} {o : Oper} {xx : az -> St -> Tree}
theorem zg (r:Rel c w0 n gs st a) (m:Bool) {k cap:Nat} {xs:List (List Dat)} {us:List Value} {vs:Array Value} {e:TypeId} (h1:∀x∈xs,x.length=k) (h2:aQ c.w (Imm c) xs.flatten us) (h3:∀v∈us,one v=true)
  (h4:vs.size=cap * k) (h5:xs.length<=cap) (h6:vs.toList.take (xs.length * k)=us) :
  Rel (c.push st.next cap (cb m k xs) (.cells vs e)) w0 n gs (dY st (cb m k xs)) a/\aD (c.push st.next cap (cb m k xs) (.cells vs e)) (.ref st.next 0 0 xs.length) (.slice (some ⟨c.w.heap.size,0,none⟩) xs.length cap):=by
 have hev:Evo c (c.push st.next cap (cb m k xs) (.cells vs e)):=Evo.push r.hrel;have hpl:(c.push st.next cap (cb m k xs) (.cells vs e)).pl st.next=⟨c.w.heap.size,cap⟩:=by simp [Cx.push]
 have hlook:look (c.push st.next cap (cb m k xs) (.cells vs e)).heap st.next=some (cb m k xs):=by simp [Cx.push,aE]
 have hblk:(c.push st.next cap (cb m k xs) (.cells vs e)).w.heap[c.w.heap.size]? = some (.cells vs e (0,0)):=by
  show (c.w.heap.push (.cells vs e))[c.w.heap.size]? = _;simp
 have h2':=aQ.keep hev.keeps _ _ h2;have hul:us.length=xs.length * k:=by
  rw [h2.length,fe h1]
 cases m with
 | true=>
  have hb:cj (c.push st.next cap (cb true k xs) (.cells vs e)) st.next (cb true k xs):=by
   refine ⟨by rw [hpl];exact h5,h1,fun _=>⟨vs,e,by rw [hpl];exact hblk,by rw [hpl];exact h4,by rw [h6];exact h2',by rw [h6];exact h3⟩⟩
  refine ⟨r.push hb,?_⟩;have hpl' : (c.push st.next cap (.mt k 0 xs) (.cells vs e)).pl st.next=⟨c.w.heap.size,cap⟩:=hpl;simp only [aD];rw [hlook];simp only [cb];refine ⟨Ls _,⟨_,_,_,rfl⟩,fun _=>⟨by simp,.inr ⟨c.w.heap.size,0,?_,fun _=>?_⟩⟩⟩
  ·rw [hpl'];rfl
  ·rw [hpl'];simp
 | false=>
  have hE:bU (c.push st.next cap (cb false k xs) (.cells vs e)).w (Imm (c.push st.next cap (cb false k xs) (.cells vs e))) c.w.heap.size k 0 xs:=by
   refine bU.of_flat h1 h2' ?_;intro j v hv;have hj:j<us.length:=by
    by_cases hh:j<us.length
    ·exact hh
    ·rw [Y2 (by omega)] at hv;cases hv
   refine ⟨?_,?_,h3 v (Zf hv)⟩
   ·rw [bO hblk]
    rw [<- h6,ON,if_pos (by omega)] at hv;simpa using hv
   ·refine .inr ⟨r.hrel.rN (Ls _),?_,?_⟩
    ·show c.w.heap.size<(c.w.heap.push (.cells vs e)).size
     simp
    ·intro id blk hl hph hg
     by_cases hid:st.next=id
     ·subst hid
      rw [hlook] at hl;injection hl with hl;subst hl
      exact ⟨k,xs,rfl,by omega⟩
     ·exfalso
      simp only [Cx.push,aE,if_neg hid] at hl;simp [Cx.push,show id≠st.next from fun h=>hid h.symm] at hg hph;have:=r.hrel.i6 hl hph;omega
  have hb:cj (c.push st.next cap (cb false k xs) (.cells vs e)) st.next (cb false k xs):=by
   refine ⟨by rw [hpl];exact h5,fun _=>⟨vs,e,by rw [hpl];exact hblk,by rw [hpl];exact h4,by rw [hpl];exact hE⟩⟩
  refine ⟨r.push hb,?_⟩;have hpl' : (c.push st.next cap (.arr k xs) (.cells vs e)).pl st.next=⟨c.w.heap.size,cap⟩:=hpl;simp only [aD];rw [hlook];simp only [cb];refine ⟨by simp,.inr ⟨c.w.heap.size,0,cap,rfl,h5,?_,fun _=>?_⟩⟩
  ·have hE' : bU (c.push st.next cap (.arr k xs) (.cells vs e)).w (Imm (c.push st.next cap (.arr k xs) (.cells vs e))) c.w.heap.size k 0 xs:=hE
   simpa using hE'
  ·rw [hpl'];simp
theorem MS (r:Rel c w0 n gs st a) (m:Bool) (k:Nat) {x:Option Addr} (hx:x=none\/∃b o,x=some ⟨b,o,none⟩) :
  Rel (c.zero st.next (cb m k [])) w0 n gs (dY st (cb m k [])) a/\aD (c.zero st.next (cb m k [])) (.ref st.next 0 0 0) (.slice x 0 0):=by
 have hlook:look (c.zero st.next (cb m k [])).heap st.next=some (cb m k []):=by simp [Cx.zero,aE]
 have hpl:(c.zero st.next (cb m k [])).pl st.next=⟨0,0⟩:=by simp [Cx.zero]
 have hph:¬Ph ⟨0,0⟩ (cb m k []):=by cases m<;>simp [cb,Ph]
 refine ⟨r.zero hph ?_,?_⟩
 ·cases m with
  | true=>exact ⟨by simp,by simp,fun h=>by rw [hpl] at h;simp at h⟩
  | false=>exact ⟨by simp,fun h=>by rw [hpl] at h;simp at h⟩
 ·simp only [aD]
  rw [hlook]
  cases m with
  | true=>
   refine ⟨Ls _,⟨_,_,_,rfl⟩,fun _=>⟨by simp,?_⟩⟩
   rcases hx with rfl|⟨b,o,rfl⟩
   ·exact .inl ⟨rfl,rfl,rfl,by rw [hpl]⟩
   ·exact .inr ⟨b,o,by rw [hpl];rfl,fun h=>by rw [hpl] at h;simp at h⟩
  | false=>
   refine ⟨by simp,?_⟩
   rcases hx with rfl|⟨b,o,rfl⟩
   ·exact .inl ⟨rfl,rfl,fun _=>by rw [hpl]⟩
   ·exact .inr ⟨b,o,0,rfl,by simp,by simp [bU],fun _=>by rw [hpl];simp⟩
theorem eH {t ty e:TypeId} {i:TypeInfo} {w:World} {base xb:Option Addr} {sLen sCap xc:Nat} (ht:P.underlying t=some (.slice e)) (hi:P.info? e=some i) (hle:sLen<=sCap) :
  (Builtin.append_ #[t,t] ty #[.slice base sLen sCap,.slice xb 0 xc]).run P w = .ok (.slice base sLen sCap) w:=by
 cases base<;>cases xb<;>simp [Builtin.append_,bq ht,Go.sizeOf,typeInfo,hi,Builtin.lenOf,Builtin.firstCells,loadCells,loadCellsFrom,storeCells,hle]
theorem D5 {t ty e:TypeId} {i:TypeInfo} {w:World} {g off sLen sCap m cp b o' k:Nat} {cur:Array Value} {e' : TypeId} {news:List Value} (ht:P.underlying t=some (.slice e)) (hi:P.info? e=some i) (hk:i.size=k)
  (hg:w.heap[g]? = some (.cells cur e' (0,0))) (hl:news.length=m * k) (hnews:∀j u,news[j]? = some u->w.cell? ⟨b,o' + j,none⟩=some u) (h1:∀u∈news,one u=true)
  (hroom:sLen+m<=sCap) (hfit:off+sLen * k+news.length<=cur.size) :
  ∃w',(Builtin.append_ #[t,t] ty #[.slice (some ⟨g,off,none⟩) sLen sCap,.slice (some ⟨b,o',none⟩) m cp]).run P w = .ok (.slice (some ⟨g,off,none⟩) (sLen+m) sCap) w'/\Laid w w' g (fS cur (off+sLen * k) news) e':=by
 obtain ⟨w',hw',L⟩:=ju (P:=P) g (off+sLen * k) news 0 cur w hg (by omega) h1;refine ⟨w',?_,L⟩;have hf:(Builtin.firstCells k m (.slice (some ⟨b,o',none⟩) m cp)).run P w = .ok news.toArray w:=by
  simp only [Builtin.firstCells];exact run_loadCells hl hnews
 subst hk;simp [Builtin.append_,bq ht,Go.sizeOf,typeInfo,hi,Builtin.lenOf,hroom,hf,addr_add,hw']
theorem bk {cl:Call} {x y:Operand} {t:TypeId} {w w' : World} {v:Value} (ho:o.op = .call cl) (hb:cl.callee = .builtin .append) (hx:cl.args.toList=[x,y]) (ht:cl.argTypes.toList=[t,t])
  (h:(Builtin.append_ #[t,t] o.type #[a.eval x,a.eval y]).run P w = .ok v w'):(execOp a.eval o).run P w = .ok (.value v) w':=by
 obtain ⟨cal,args,ats⟩:=cl;simp only at hb hx ht;subst hb;have hx' : args = #[x,y]:=by rw [<- hx]
 have ht' : ats = #[t,t]:=by rw [<- ht]
 subst hx' ht';simp only [execOp,ho,resolve,invoke,builtin];simp [h]
theorem MU (r:Rel c w0 n gs st a):Rel { c with w:=c.w.drew } w0 n gs st a:=
 r.grow ⟨rfl,rfl,rfl,Ls _,fun _ _=>rfl⟩
theorem MV (c:Cx):Keeps c.w c.w.drew (Imm c) (Imm { c with w:=c.w.drew }):=by
 intro b o' h;exact ⟨h,rfl⟩
structure rn (P:Program) (t e:TypeId) (k bytes:Nat):Prop where
 und:P.underlying t=some (.slice e)
 info:∃i z zs,P.info? e=some i/\i.size=k/\i.bytes=bytes/\i.zero=some z/\jn z.cells.toList=some zs/\z.cells.size=k
 pos:0<bytes
theorem wJ (r:Rel c w0 n gs st a) (m:Bool) {k need cap:Nat} {e:TypeId} {z:Value} {xs:List (List Dat)} {us:List Value} (h1:∀x∈xs,x.length=k) (h2:aQ c.w (Imm c) xs.flatten us) (h3:∀v∈us,one v=true) (hz:z.cells.size=k) (hn:xs.length=need) (hc:need<=cap) :
  ∃c' : Cx,c'.B=c.B/\c'.J0=c.J0/\c'.w=c.w.drew.alloc (.cells (us.toArray++Builtin.zeroCells z.cells (cap - need)) e)/\Rel c' w0 n gs (dY st (cb m k xs)) a/\
  aD c' (.ref st.next 0 0 xs.length) (.slice (some ⟨c.w.heap.size,0,none⟩) xs.length cap):=by
 have hul:us.length=xs.length * k:=by rw [h2.length,fe h1]
 refine ⟨Cx.push { c with w:=c.w.drew } st.next cap (cb m k xs) (.cells (us.toArray++Builtin.zeroCells z.cells (cap - need)) e),rfl,rfl,rfl,?_⟩;refine zg (MU r) m h1 (aQ.keep (MV c) _ _ h2) h3 ?_ (by omega) ?_
 ·have hz' : (Builtin.zeroCells z.cells (cap - need)).size=(cap - need) * k:=by simp [Builtin.zeroCells,hz]
  rw [ZX,hz',ZV,hul,hn,<- Y6]
  congr 1;omega
 ·rw [Z6,<- hul];simp
end
end Uw
namespace Uw
open Go Go.RowKit
variable [Glob]
section
variable {P : Program} {Q : az -> St -> Prop} {q : V -> St -> Tree} {c : Cx} {w0 : World} {n : Nat} {gs : Fr} {st : St} {a : Act} {K : Act -> World -> Prop} {Qx : Exit -> Act -> World -> Prop} {o : Oper} {xx : az -> St -> Tree}
theorem Rel.aH (r:Rel c w0 n gs st a) {id:Nat} {b b' : Blk} {p' : Pl} (hl:look c.heap id=some b) {w' : World}
  (hother:∀k,k<c.w.heap.size->(Ph (c.pl id) b->k≠(c.pl id).gb)->w'.heap[k]? = c.w.heap[k]?) (hsz:c.w.heap.size<=w'.heap.size) (hbel:Below c.B c.w w')
  (hp:(p'.gb=(c.pl id).gb/\(Ph p' b'->Ph (c.pl id) b))\/c.w.heap.size<=p'.gb)
  (yu:Ph (c.pl id) b->∀o,Imm c (c.pl id).gb o->w'.cell? ⟨(c.pl id).gb,o,none⟩=c.w.cell? ⟨(c.pl id).gb,o,none⟩/\(p'.gb=(c.pl id).gb->∃k xs,b' = .arr k xs/\o<xs.length * k))
  (hbe:cD (c.pl id) p' b b') (hb:Evo c (c.aH id b' p' w')->cj (c.aH id b' p' w') id b'):Rel (c.aH id b' p' w') w0 n gs { st with heap:=(id,b')::st.heap } a:=by
 have he:=Evo.aH r.hrel hl hother hsz hp yu hbe;exact r.evo he (by simp [Cx.aH,r.heap]) (r.hrel.aH hl he hother hbel hp (hb he)) rfl rfl rfl (Ls _)
theorem xX {t e ty:TypeId} {k bytes g cap len m cp b o' : Nat} {w:World} {vs:Array Value} {e' : TypeId} {us:List Value} (he:rn P t e k bytes) (hg:w.heap[g]? = some (.cells vs e' (0,0))) (hs:vs.size=cap * k) (hlen:len<=cap)
  (hone:∀v∈vs.toList.take (len * k),one v=true)
  (hl:us.length=m * k) (hn:∀j v,us[j]? = some v->w.cell? ⟨b,o' + j,none⟩=some v) (h1:∀v∈us,one v=true) (hby:(len+m) * bytes<=70368744177664) :
  (∃w',(Builtin.append_ #[t,t] ty #[.slice (some ⟨g,0,none⟩) len cap,.slice (some ⟨b,o',none⟩) m cp]).run P w = .ok (.slice (some ⟨g,0,none⟩) (len+m) cap) w'/\len+m<=cap/\Laid w w' g (fS vs (len * k) us) e')\/
  (∃w' cap' vs',(Builtin.append_ #[t,t] ty #[.slice (some ⟨g,0,none⟩) len cap,.slice (some ⟨b,o',none⟩) m cp]).run P w = .ok (.slice (some ⟨w.heap.size,0,none⟩) (len+m) cap') w'/\len+m<=cap'/\w' = w.drew.alloc (.cells vs' e)/\vs'.size=cap' * k/\
   vs'.toList.take ((len+m) * k)=vs.toList.take (len * k)++us):=by
 obtain ⟨i,z,zs,hi,hsz,H6,hzero,hzs,hzk⟩:=he.info;have nG:=he.und;have hpos:=he.pos;have hle:len+m<=70368744177664:=Zn (Zz _ hpos) hby
 have hlk:len * k<=vs.size:=by rw [hs];exact Y5 _ hlen
 by_cases hroom:len+m<=cap
 ·left
  have hfit:0+len * k+us.length<=vs.size:=by
   rw [hl,hs,Y9,<- Y6];exact Y5 _ hroom
  obtain ⟨w',hw',L⟩:=D5 (P:=P) (ty:=ty) (cp:=cp) (off:=0) nG hi hsz hg hl hn h1 hroom hfit;exact ⟨w',hw',hroom,by simpa using L⟩
 ·right
  have hold:(vs.toList.take (len * k)).length=len * k:=by simp;omega
  have hgr:=run_append_grow w t ty e i z nG hi hzero ⟨g,0,none⟩ len cap (vs.toList.take (len * k)) (by rw [hsz];exact hold) (fun j v hv=>by
    rw [addr_add,bO hg];rw [ON] at hv
    split at hv
    ·simpa using hv
    ·simp at hv) ⟨b,o',none⟩ m cp us (by rw [hsz];exact hl) (fun j v hv=>by rw [addr_add];exact hn j v hv) (by omega) (by omega) (growslice_fits (by omega) (by rw [H6];omega))
  have hge:=grownCap_ge w (len+m) cap e;refine ⟨_,grownCap w (len+m) cap e,_,hgr,hge,rfl,?_,?_⟩
  ·have hz' : (Builtin.zeroCells z.cells (grownCap w (len+m) cap e - (len+m))).size=(grownCap w (len+m) cap e - (len+m)) * k:=by simp [Builtin.zeroCells,hzk]
   rw [ZX,ZX,hz',ZV,ZV,hold,hl,<- Y6,<- Y6]
   congr 1;omega
  ·have h3:(vs.toList.take (len * k)++us).length=(len+m) * k:=by rw [Zs,hold,hl,Y6]
   simp only [Z6,ZP];rw [<- ZP,<- h3];exact aa0
theorem u7 {t e ty:TypeId} {k bytes m cp b o' b1 o1:Nat} {w:World} {us:List Value} (he:rn P t e k bytes)
  (hl:us.length=m * k) (hn:∀j v,us[j]? = some v->w.cell? ⟨b,o' + j,none⟩=some v) (hm:0<m) (hby:m * bytes<=70368744177664) :
  ∃w' cap' vs',(Builtin.append_ #[t,t] ty #[.slice (some ⟨b1,o1,none⟩) 0 0,.slice (some ⟨b,o',none⟩) m cp]).run P w = .ok (.slice (some ⟨w.heap.size,0,none⟩) m cap') w'/\m<=cap'/\w' = w.drew.alloc (.cells vs' e)/\vs'.size=cap' * k/\
   vs'.toList.take (m * k)=us:=by
 obtain ⟨i,z,zs,hi,hsz,H6,hzero,hzs,hzk⟩:=he.info;have nG:=he.und;have hpos:=he.pos;have hle:m<=70368744177664:=Zn (Zz _ hpos) hby
 have hgr:=run_append_grow w t ty e i z nG hi hzero ⟨b1,o1,none⟩ 0 0 [] (by simp) (by simp) ⟨b,o',none⟩ m cp us (by rw [hsz];exact hl) (fun j v hv=>by rw [addr_add];exact hn j v hv) (by omega) (by omega) (growslice_fits (by omega) (by rw [H6,Y9];omega));simp only [Y9] at hgr;have hge:=grownCap_ge w m 0 e;refine ⟨_,grownCap w m 0 e,_,hgr,hge,rfl,?_,?_⟩
 ·have hz' : (Builtin.zeroCells z.cells (grownCap w m 0 e - m)).size=(grownCap w m 0 e - m) * k:=by simp [Builtin.zeroCells,hzk]
  rw [ZX,ZX,hz',ZV,ZV,hl,ZK,Y9,<- Y6]
  congr 1;omega
 ·simp only [Z6,ZP,aaz]
  rw [<- hl];exact aa0
theorem zh {vs:Array Value} {us:List Value} {p m:Nat} (h:p+us.length=m) (hm:m<=vs.size):(fS vs p us).toList.take m=vs.toList.take p++us:=by
 rw [fk];apply ZW;intro j;rw [ON,i7];simp only [aal];by_cases hj:j<p
 ·rw [ZB (by simp;omega),ON,if_pos hj,if_pos (by omega),if_neg (by omega)]
 ·rw [ZA (by simp;omega)]
  simp only [aau,aal];by_cases hjm:j<m
  ·rw [if_pos hjm,if_pos (by omega)]
   congr 1;omega
  ·rw [if_neg hjm]
   rw [Y2 (by omega)]
theorem UA (r:Rel c w0 n gs st a) (hK:bf P Q q c w0 n gs st a o.dst K) {cl:Call} {x1 x2:Operand} {t e:TypeId} {k bytes id ver len:Nat} {xs ys:List (List Dat)} (ho:o.op = .call cl) (hb:cl.callee = .builtin .append) (hx:cl.args.toList=[x1,x2]) (ht:cl.argTypes.toList=[t,t])
  (he:rn P t e k bytes) (hl' : look st.heap id=some (.mt k ver xs)) (hv1:aD c (.ref id ver 0 len) (a.eval x1)) (e2:FB c k (a.eval x2) ys) (hby:(len+ys.length) * bytes<=70368744177664)
  (h:WT P Q (q (.ref id (ver+1) 0 (len+ys.length)) { st with heap:=(id,.mt k (ver+1) (xs.take len++ys))::st.heap })):o.wp P a c.w K Qx:=by
 have hl:look c.heap id=some (.mt k ver xs):=by rw [r.heap];exact hl'
 simp only [aD,hl] at hv1;obtain ⟨_,_,hv1⟩:=hv1;obtain ⟨v1,v2⟩:=hv1 rfl;simp only [Y9,aaM,aaL] at v1 v2;obtain ⟨b3,b4,bb⟩:=r.hrel.blk id _ hl;have hll:(xs.take len).length=len:=by simp;omega
 have hk1:∀x∈xs.take len,x.length=k:=fun x hx=>b4 x (Zi hx);by_cases hcap0:(c.pl id).cap=0
 ·-- there is no room,and nothing
  have hl0:len=0:=by omega
  have hxs:xs=[]:=YZ (by omega);subst hl0 hxs;have nph:¬Ph (c.pl id) (.mt k ver []):=by simp [Ph,hcap0]
  obtain ⟨xa,hxa,Bm⟩:∃xa:Option Addr,a.eval x1 = .slice xa 0 0/\(xa=none\/∃b o,xa=some ⟨b,o,none⟩):=by
   rcases v2 with ⟨v2,_⟩|⟨b,o1,v2,_⟩
   ·exact ⟨none,v2,.inl rfl⟩
   ·exact ⟨some ⟨b,o1,none⟩,by rw [v2,hcap0],.inr ⟨b,o1,rfl⟩⟩
  have FC:ys=[]->(∃xb xc,a.eval x2 = .slice xb 0 xc)->o.wp P a c.w K Qx:=by
   rintro rfl ⟨xb,xc,hx2⟩;simp only [Z1,List.take_nil,ZK,ZR] at h;have hrel:Rel (c.aH id (.mt k (ver+1) []) (c.pl id) c.w) w0 n gs { st with heap:=(id,.mt k (ver+1) [])::st.heap } a:=by
    refine r.aH hl (fun _ _ _=>rfl) (Ls _) (Below.refl _ _) (.inl ⟨rfl,fun h=>h⟩) (fun hh=>(nph hh).elim) ⟨rfl,by omega,fun hh=>by omega⟩ (fun hev=>?_);exact ⟨by simp,by simp,fun hh=>by rw [af.2] at hh;omega⟩
   refine bP (w':=c.w) (bk ho hb hx ht ?_) (hK (c.aH id (.mt k (ver+1) []) (c.pl id) c.w) _ (.ref id (ver+1) 0 0) (.slice xa 0 0) rfl rfl hrel rfl ?_ h)
   ·rw [hxa,hx2]
    obtain ⟨i,z,zs,hi,_⟩:=he.info;exact eH he.und hi (by omega)
   ·simp only [aD,af.1]
    refine ⟨Ls _,⟨_,_,_,rfl⟩,fun _=>⟨by simp,?_⟩⟩;rw [af.2]
    rcases Bm with rfl|⟨b,o1,rfl⟩
    ·exact .inl ⟨rfl,rfl,rfl,hcap0⟩
    ·exact .inr ⟨b,o1,by rw [hcap0],fun hh=>by omega⟩
  rcases e2 with ⟨⟨_,e2⟩,rfl⟩|⟨bb',o',cp,us,e2,e3,e4,e5,e6,e7,e8⟩
  ·exact FC rfl ⟨_,0,e2⟩
  ·by_cases hy0:ys=[]
   ·exact FC hy0 ⟨_,cp,by rw [e2,hy0];rfl⟩
   ·have hpos' : 0<ys.length:=by cases ys<;>simp_all
    simp only [List.take_nil,aaz,Y9] at h hby
    have hrun:∃w' cap' vs',(Builtin.append_ #[t,t] o.type #[a.eval x1,a.eval x2]).run P c.w = .ok (.slice (some ⟨c.w.heap.size,0,none⟩) ys.length cap') w'/\ys.length<=cap'/\w' = c.w.drew.alloc (.cells vs' e)/\vs'.size=cap' * k/\vs'.toList.take (ys.length * k)=us:=by
     rcases Bm with rfl|⟨b,o1,rfl⟩
     ·obtain ⟨i,z,zs,hi,hsz,H6,hzero,hzs,hzk⟩:=he.info
      have hlen:ys.length<=70368744177664:=Zn (Zz _ he.pos) hby
      have hge:=grownCap_ge c.w ys.length 0 e;rw [hxa,e2];refine ⟨_,_,_,run_append_nil c.w t o.type e i z he.und hi hzero ⟨bb',o',none⟩ ys.length cp us (by rw [hsz];exact e6) (fun j v hv=>by rw [addr_add];exact e7 j v hv) hpos' (by omega) (by rw [H6];omega),hge,rfl,?_,?_⟩
      ·have hz' : (Builtin.zeroCells z.cells (grownCap c.w ys.length 0 e - ys.length)).size=(grownCap c.w ys.length 0 e - ys.length) * k:=by simp [Builtin.zeroCells,hzk]
       rw [ZX,hz',ZV,e6,<- Y6]
       congr 1;omega
      ·rw [Z6,<- e6];simp
     ·rw [hxa,e2]
      exact u7 he e6 e7 hpos' hby
    obtain ⟨w',cap',vs',hw',hroom,rfl,hs',htake⟩:=hrun;have hbel:Below c.B c.w (c.w.drew.alloc (.cells vs' e)):=(Below.refl c.B c.w).drew.alloc r.hrel.zc _;have hrel:Rel (c.aH id (.mt k (ver+1) ys) ⟨c.w.heap.size,cap'⟩ (c.w.drew.alloc (.cells vs' e))) w0 n gs { st with heap:=(id,.mt k (ver+1) ys)::st.heap } a:=by
     refine r.aH hl (fun k' hk' _=>Below.heap_alloc c.w.drew _ _ hk') (by rw [show (c.w.drew.alloc (Obj.cells vs' e)).heap=c.w.heap.push (.cells vs' e) from rfl];simp) hbel (.inr (Ls _)) (fun hh=>(nph hh).elim) ⟨rfl,by omega,fun hh=>by omega⟩ (fun hev=>?_);refine ⟨by rw [af.2];exact hroom,e4,fun _=>⟨vs',e,?_,by rw [af.2];exact hs',?_,?_⟩⟩
     ·rw [af.2]
      show (c.w.heap.push (.cells vs' e))[c.w.heap.size]? = _;simp
     ·rw [htake];exact aQ.keep hev.keeps _ _ e5
     ·rw [htake];exact e8
    refine bP (bk ho hb hx ht hw') (hK (c.aH id (.mt k (ver+1) ys) ⟨c.w.heap.size,cap'⟩ (c.w.drew.alloc (.cells vs' e))) _ (.ref id (ver+1) 0 ys.length) _ rfl rfl hrel rfl ?_ h);simp only [aD,af.1];refine ⟨Ls _,⟨_,_,_,rfl⟩,fun _=>⟨by omega,.inr ⟨c.w.heap.size,0,?_,?_⟩⟩⟩
    ·rw [af.2];rfl
    ·rw [af.2];simp
 have hcap:0<(c.pl id).cap:=by omega
 obtain ⟨vs,e',b1,b2,b5,b6⟩:=bb hcap;have hge:=r.hrel.ge id _ hl hcap;have hgb:=r.hrel.geB hl hcap;obtain ⟨b,o1,v2,v3⟩:∃b o,a.eval x1 = .slice (some ⟨b,o,none⟩) len (c.pl id).cap/\(0<(c.pl id).cap->b=(c.pl id).gb/\o=0):=by
  rcases v2 with ⟨_,_,_,v2⟩|v2
  ·omega
  ·exact v2
 have hlk:len * k<=xs.length * k:=Y5 _ v1;have hsz:xs.length * k<=vs.size:=by rw [b2];exact Y5 _ b3
 have htk:(vs.toList.take (xs.length * k)).take (len * k)=vs.toList.take (len * k):=by rw [aaC];congr 1;omega
 have hold:aQ c.w (Imm c) (xs.take len).flatten (vs.toList.take (len * k)):=by
  rw [jx b4 len v1,<- htk];exact b5.take _
 have hone:∀v∈vs.toList.take (len * k),one v=true:=fun v hv=>b6 v (by rw [<- htk] at hv;exact Zi hv);have MW:∀o,Imm c (c.pl id).gb o->False:=by
  intro o hi
  rcases hi with hi|⟨_,_,g3⟩
  ·exact hge hi.1
  ·obtain ⟨_,_,hh,_⟩:=g3 id _ hl hcap rfl;cases hh
 -- nothing is appended
 have zero:ys=[]->(∃xb xc,a.eval x2 = .slice xb 0 xc)->o.wp P a c.w K Qx:=by
  rintro rfl ⟨xb,xc,hx2⟩;simp only [Z1,ZK,ZR] at h;have hrel:Rel (c.aH id (.mt k (ver+1) (xs.take len)) (c.pl id) c.w) w0 n gs { st with heap:=(id,.mt k (ver+1) (xs.take len))::st.heap } a:=by
   refine r.aH hl (fun _ _ _=>rfl) (Ls _) (Below.refl _ _) (.inl ⟨rfl,fun _=>hcap⟩) (fun _ o hi=>(MW o hi).elim) ⟨rfl,by omega,fun hh=>by omega⟩ (fun hev=>?_);refine ⟨by rw [af.2];omega,hk1,fun _=>⟨vs,e',by rw [af.2];exact b1,by rw [af.2];exact b2,?_,?_⟩⟩
   ·rw [hll];exact aQ.keep hev.keeps _ _ hold
   ·rw [hll];exact hone
  refine bP (w':=c.w) (bk ho hb hx ht ?_) (hK (c.aH id (.mt k (ver+1) (xs.take len)) (c.pl id) c.w) _ (.ref id (ver+1) 0 len) (a.eval x1) rfl rfl hrel rfl ?_ h)
  ·rw [v2,hx2]
   obtain ⟨i,z,zs,hi,_⟩:=he.info;exact eH he.und hi (by omega)
  ·simp only [aD,af.1]
   refine ⟨Ls _,⟨_,_,_,v2⟩,fun _=>⟨by omega,.inr ⟨b,o1,?_,?_⟩⟩⟩
   ·rw [af.2];exact v2
   ·rw [af.2];simpa using v3
 rcases e2 with ⟨⟨_,e2⟩,rfl⟩|⟨bb,o',cp,us,e2,e3,e4,e5,e6,e7,e8⟩
 ·exact zero rfl ⟨_,0,e2⟩
 ·by_cases hy0:ys=[]
  ·exact zero hy0 ⟨_,cp,by rw [e2,hy0];rfl⟩
  ·have hpos' : 0<ys.length:=by cases ys<;>simp_all
   have hk2:∀x∈xs.take len++ys,x.length=k:=fun x hx=>by rcases Za.1 hx with hx|hx;exact hk1 x hx;exact e4 x hx
   have hfl:aQ c.w (Imm c) (xs.take len++ys).flatten (vs.toList.take (len * k)++us):=by rw [aaH];exact hold.append e5
   have FD:∀v∈vs.toList.take (len * k)++us,one v=true:=fun v hv=>by rcases Za.1 hv with hv|hv;exact hone v hv;exact e8 v hv
   have wK:(xs.take len++ys).length=len+ys.length:=by rw [Zs,hll]
   -- it moves
   have moved:∀(w' : World) (cap' : Nat) (vs' : Array Value),(Builtin.append_ #[t,t] o.type #[a.eval x1,a.eval x2]).run P c.w = .ok (.slice (some ⟨c.w.heap.size,0,none⟩) (len+ys.length) cap') w'->len+ys.length<=cap'->w' = c.w.drew.alloc (.cells vs' e)->vs'.size=cap' * k->
     vs'.toList.take ((len+ys.length) * k)=vs.toList.take (len * k)++us->o.wp P a c.w K Qx:=by
    rintro w' cap' vs' hw' hroom rfl hs' htake;have hbel:Below c.B c.w (c.w.drew.alloc (.cells vs' e)):=(Below.refl c.B c.w).drew.alloc r.hrel.zc _;have hrel:Rel (c.aH id (.mt k (ver+1) (xs.take len++ys)) ⟨c.w.heap.size,cap'⟩ (c.w.drew.alloc (.cells vs' e))) w0 n gs { st with heap:=(id,.mt k (ver+1) (xs.take len++ys))::st.heap } a:=by
     refine r.aH hl (fun k' hk' _=>Below.heap_alloc c.w.drew _ _ hk') (by rw [show (c.w.drew.alloc (Obj.cells vs' e)).heap=c.w.heap.push (.cells vs' e) from rfl];simp) hbel (.inr (Ls _)) (fun _ o hi=>(MW o hi).elim) ⟨rfl,by omega,fun hh=>by omega⟩ (fun hev=>?_);refine ⟨by rw [af.2,wK];exact hroom,hk2,fun _=>⟨vs',e,?_,by rw [af.2];exact hs',?_,?_⟩⟩
     ·rw [af.2]
      show (c.w.heap.push (.cells vs' e))[c.w.heap.size]? = _;simp
     ·rw [wK,htake];exact aQ.keep hev.keeps _ _ hfl
     ·rw [wK,htake];exact FD
    refine bP (bk ho hb hx ht hw') (hK (c.aH id (.mt k (ver+1) (xs.take len++ys)) ⟨c.w.heap.size,cap'⟩ (c.w.drew.alloc (.cells vs' e))) _ (.ref id (ver+1) 0 (len+ys.length)) _ rfl rfl hrel rfl ?_ h);simp only [aD,af.1];refine ⟨Ls _,⟨_,_,_,rfl⟩,fun _=>⟨by omega,.inr ⟨c.w.heap.size,0,?_,?_⟩⟩⟩
    ·rw [af.2];rfl
    ·rw [af.2];simp
   obtain ⟨rfl,rfl⟩:=v3 hcap
   rcases xX (ty:=o.type) (cp:=cp) he b1 b2 (by omega) hone e6 e7 e8 hby with ⟨w',hw',hroom,L⟩|⟨w',cap',vs',hw',hroom,rfl,hs',htake⟩
   ·have hrel:Rel (c.aH id (.mt k (ver+1) (xs.take len++ys)) (c.pl id) w') w0 n gs { st with heap:=(id,.mt k (ver+1) (xs.take len++ys))::st.heap } a:=by
     refine r.aH hl (fun k' _ hk'=>L.other k' (hk' hcap)) (by rw [L.size];exact Ls _) (L.below hgb) (.inl ⟨rfl,fun _=>hcap⟩) (fun _ o hi=>(MW o hi).elim) ⟨rfl,by omega,fun hh=>by omega⟩ (fun hev=>?_);have Qs:(fS vs (len * k) us).toList.take ((xs.take len++ys).length * k)=vs.toList.take (len * k)++us:=by
      refine zh ?_ ?_
      ·rw [wK,e6,Y6]
      ·rw [wK,b2];exact Y5 _ hroom
     refine ⟨by rw [af.2,wK];exact hroom,hk2,fun _=>⟨_,e',by rw [af.2];exact L.here,by rw [af.2,nE];exact b2,?_,?_⟩⟩
     ·rw [Qs];exact aQ.keep hev.keeps _ _ hfl
     ·rw [Qs];exact FD
    refine bP (w':=w') (bk ho hb hx ht (by rw [v2,e2];exact hw')) (hK (c.aH id (.mt k (ver+1) (xs.take len++ys)) (c.pl id) w') _ (.ref id (ver+1) 0 (len+ys.length)) _ rfl rfl hrel rfl ?_ h);simp only [aD,af.1];refine ⟨Ls _,⟨_,_,_,rfl⟩,fun _=>⟨by omega,.inr ⟨(c.pl id).gb,0,?_,?_⟩⟩⟩
    ·rw [af.2];rfl
    ·rw [af.2];simp
   ·exact moved _ cap' vs' (by rw [v2,e2];exact hw') hroom rfl hs' htake
end
end Uw
namespace Uw
open Go Go.RowKit
variable [Glob]
section
variable {P : Program} {Q : az -> St -> Prop} {q : V -> St -> Tree} {c : Cx} {w0 : World} {n : Nat} {gs : Fr} {st : St} {a : Act} {K : Act -> World -> Prop} {Qx : Exit -> Act -> World -> Prop} {o : Oper} {xx : az -> St -> Tree}
theorem D6 {c' : Cx} {id k cap gb:Nat} {xs:List (List Dat)} {us:List Value} {vs:Array Value} {e:TypeId} {w0' : World} {next:Nat} (hlook:look c'.heap id=some (.arr k xs)) (hpl:c'.pl id=⟨gb,cap⟩) (hblk:c'.w.heap[gb]? = some (.cells vs e (0,0))) (hB:¬c'.Old gb)
  (hinj:∀id' b',look c'.heap id' = some b'->Ph (c'.pl id') b'->(c'.pl id').gb=gb->id' = id)
  (h1:∀x∈xs,x.length=k) (h2:aQ c'.w (Imm c') xs.flatten us) (h3:∀v∈us,one v=true) (h6:vs.toList.take (xs.length * k)=us):bU c'.w (Imm c') gb k 0 xs:=by
 have hul:us.length=xs.length * k:=by rw [h2.length,fe h1]
 refine bU.of_flat h1 h2 ?_;intro j v hv;have hj:j<us.length:=by
  by_cases hh:j<us.length
  ·exact hh
  ·rw [Y2 (by omega)] at hv;cases hv
 refine ⟨?_,?_,h3 v (Zf hv)⟩
 ·rw [bO hblk]
  rw [<- h6,ON,if_pos (by omega)] at hv;simpa using hv
 ·refine .inr ⟨hB,?_,?_⟩
  ·by_cases hlt:gb<c'.w.heap.size
   ·exact hlt
   ·rw [ZI (by omega)] at hblk;cases hblk
  ·intro id' blk hl hph hg
   have:=hinj id' blk hl hph hg;subst this;rw [hlook] at hl;injection hl with hl;subst hl
   exact ⟨k,xs,rfl,by omega⟩
theorem Qu (r:Rel c w0 n gs st a) (hK:bf P Q q c w0 n gs st a o.dst K) {cl:Call} {x1 x2:Operand} {t e:TypeId} {k bytes id ver len:Nat} {xs ys:List (List Dat)} (ho:o.op = .call cl) (hb:cl.callee = .builtin .append) (hx:cl.args.toList=[x1,x2]) (ht:cl.argTypes.toList=[t,t])
  (he:rn P t e k bytes) (hl' : look st.heap id=some (.arr k xs)) (hv1:aD c (.ref id ver 0 len) (a.eval x1)) (e2:FB c k (a.eval x2) ys) (hlen:len=xs.length) (hby:(len+ys.length) * bytes<=70368744177664)
  (h:WT P Q (q (.ref id 0 0 (len+ys.length)) { st with heap:=(id,.arr k (xs++ys))::st.heap })):o.wp P a c.w K Qx:=by
 have hl:look c.heap id=some (.arr k xs):=by rw [r.heap];exact hl'
 subst hlen;simp only [aD,hl] at hv1;obtain ⟨_,hv1⟩:=hv1;obtain ⟨b3,bb⟩:=r.hrel.blk id _ hl;by_cases hcap0:(c.pl id).cap=0
 ·-- there is no room,and nothing
  have hxs:xs=[]:=YZ (by omega);subst hxs;have nph:¬Ph (c.pl id) (.arr k []):=by simp [Ph,hcap0]
  obtain ⟨xa,hxa,Bm⟩:∃xa:Option Addr,a.eval x1 = .slice xa 0 0/\(xa=none\/∃b o,xa=some ⟨b,o,none⟩):=by
   rcases hv1 with ⟨v2,_⟩|⟨b,o1,cap,v2,_,_,v3⟩
   ·exact ⟨none,v2,.inl rfl⟩
   ·obtain ⟨v3,_⟩:=v3 (by simp)
    exact ⟨some ⟨b,o1,none⟩,by rw [v2,v3,hcap0];rfl,.inr ⟨b,o1,rfl⟩⟩
  have FC:ys=[]->(∃xb xc,a.eval x2 = .slice xb 0 xc)->o.wp P a c.w K Qx:=by
   rintro rfl ⟨xb,xc,hx2⟩;simp only [Z1,ZK,ZR] at h;have hrel:Rel (c.aH id (.arr k []) (c.pl id) c.w) w0 n gs { st with heap:=(id,.arr k [])::st.heap } a:=by
    refine r.aH hl (fun _ _ _=>rfl) (Ls _) (Below.refl _ _) (.inl ⟨rfl,fun h=>h⟩) (fun hh=>(nph hh).elim) ⟨rfl,⟨[],rfl⟩,fun _=>rfl⟩ (fun hev=>?_);exact ⟨by simp,fun hh=>by rw [af.2] at hh;omega⟩
   refine bP (w':=c.w) (bk ho hb hx ht ?_) (hK (c.aH id (.arr k []) (c.pl id) c.w) _ (.ref id 0 0 0) (.slice xa 0 0) rfl rfl hrel rfl ?_ h)
   ·rw [hxa,hx2]
    obtain ⟨i,z,zs,hi,_⟩:=he.info;exact eH he.und hi (by omega)
   ·simp only [aD,af.1]
    refine ⟨by simp,?_⟩;rw [af.2]
    rcases Bm with rfl|⟨b,o1,rfl⟩
    ·exact .inl ⟨rfl,rfl,fun _=>hcap0⟩
    ·exact .inr ⟨b,o1,0,rfl,by simp,by simp [bU],fun _=>⟨by rw [hcap0],fun hh=>by omega⟩⟩
  rcases e2 with ⟨⟨_,e2⟩,rfl⟩|⟨bb',o',cp,us,e2,e3,e4,e5,e6,e7,e8⟩
  ·exact FC rfl ⟨_,0,e2⟩
  ·by_cases hy0:ys=[]
   ·exact FC hy0 ⟨_,cp,by rw [e2,hy0];rfl⟩
   ·have hpos' : 0<ys.length:=by cases ys<;>simp_all
    simp only [aaz,ZK,Y9] at h hby
    have hrun:∃w' cap' vs',(Builtin.append_ #[t,t] o.type #[a.eval x1,a.eval x2]).run P c.w = .ok (.slice (some ⟨c.w.heap.size,0,none⟩) ys.length cap') w'/\ys.length<=cap'/\w' = c.w.drew.alloc (.cells vs' e)/\vs'.size=cap' * k/\vs'.toList.take (ys.length * k)=us:=by
     rcases Bm with rfl|⟨b,o1,rfl⟩
     ·obtain ⟨i,z,zs,hi,hsz,H6,hzero,hzs,hzk⟩:=he.info
      have hlen:ys.length<=70368744177664:=Zn (Zz _ he.pos) hby
      have hge:=grownCap_ge c.w ys.length 0 e;rw [hxa,e2];refine ⟨_,_,_,run_append_nil c.w t o.type e i z he.und hi hzero ⟨bb',o',none⟩ ys.length cp us (by rw [hsz];exact e6) (fun j v hv=>by rw [addr_add];exact e7 j v hv) hpos' (by omega) (by rw [H6];omega),hge,rfl,?_,?_⟩
      ·have hz' : (Builtin.zeroCells z.cells (grownCap c.w ys.length 0 e - ys.length)).size=(grownCap c.w ys.length 0 e - ys.length) * k:=by simp [Builtin.zeroCells,hzk]
       rw [ZX,hz',ZV,e6,<- Y6]
       congr 1;omega
      ·rw [Z6,<- e6];simp
     ·rw [hxa,e2]
      exact u7 he e6 e7 hpos' hby
    obtain ⟨w',cap',vs',hw',hroom,rfl,hs',htake⟩:=hrun;have hbel:Below c.B c.w (c.w.drew.alloc (.cells vs' e)):=(Below.refl c.B c.w).drew.alloc r.hrel.zc _;have hblk:(c.w.drew.alloc (.cells vs' e)).heap[c.w.heap.size]? = some (.cells vs' e (0,0)):=by
     show (c.w.heap.push (.cells vs' e))[c.w.heap.size]? = _;simp
    have hsz2:c.w.heap.size<=(c.w.drew.alloc (.cells vs' e)).heap.size:=by rw [show (c.w.drew.alloc (Obj.cells vs' e)).heap=c.w.heap.push (.cells vs' e) from rfl];simp
    have hbe:cD (c.pl id) ⟨c.w.heap.size,cap'⟩ (.arr k []) (.arr k ys):=⟨rfl,⟨ys,rfl⟩,fun hh=>(hy0 hh).elim⟩
    have hev:=Evo.aH (p':=⟨c.w.heap.size,cap'⟩) (b':=.arr k ys) (w':=c.w.drew.alloc (.cells vs' e)) r.hrel hl (fun k' hk' _=>Below.heap_alloc c.w.drew _ _ hk') hsz2 (.inr (Ls _)) (fun hh=>(nph hh).elim) hbe;have V0:∀id' x,look (c.aH id (.arr k ys) ⟨c.w.heap.size,cap'⟩ (c.w.drew.alloc (.cells vs' e))).heap id' = some x->Ph ((c.aH id (.arr k ys) ⟨c.w.heap.size,cap'⟩ (c.w.drew.alloc (.cells vs' e))).pl id') x->((c.aH id (.arr k ys) ⟨c.w.heap.size,cap'⟩ (c.w.drew.alloc (.cells vs' e))).pl id').gb=c.w.heap.size->id' = id:=by
     intro id' x hx hph hg;by_cases hid:id=id'
     ·exact hid.symm
     ·exfalso
      rw [(bj hid).1] at hx;rw [(bj hid).2] at hg hph;have:=r.hrel.i6 hx hph;omega
    have hE:bU (c.aH id (.arr k ys) ⟨c.w.heap.size,cap'⟩ (c.w.drew.alloc (.cells vs' e))).w (Imm (c.aH id (.arr k ys) ⟨c.w.heap.size,cap'⟩ (c.w.drew.alloc (.cells vs' e)))) c.w.heap.size k 0 ys:=
     D6 (w0':=w0) (next:=0) af.1 af.2 hblk (r.hrel.rN (Ls _)) V0 e4 (aQ.keep hev.keeps _ _ e5) e8 htake
    have hrel:Rel (c.aH id (.arr k ys) ⟨c.w.heap.size,cap'⟩ (c.w.drew.alloc (.cells vs' e))) w0 n gs { st with heap:=(id,.arr k ys)::st.heap } a:=by
     refine r.aH hl (fun k' hk' _=>Below.heap_alloc c.w.drew _ _ hk') hsz2 hbel (.inr (Ls _)) (fun hh=>(nph hh).elim) hbe (fun _=>?_);exact ⟨by rw [af.2];exact hroom,fun _=>⟨vs',e,by rw [af.2];exact hblk,by rw [af.2];exact hs',by rw [af.2];exact hE⟩⟩
    refine bP (bk ho hb hx ht hw') (hK (c.aH id (.arr k ys) ⟨c.w.heap.size,cap'⟩ (c.w.drew.alloc (.cells vs' e))) _ (.ref id 0 0 ys.length) _ rfl rfl hrel rfl ?_ h);simp only [aD,af.1];refine ⟨by omega,.inr ⟨c.w.heap.size,0,cap',rfl,hroom,?_,fun _=>?_⟩⟩
    ·rw [YY,i5 (by omega)];exact hE
    ·rw [af.2];simp
 have hcap:0<(c.pl id).cap:=by omega
 obtain ⟨vs,e',b1,b2,b4⟩:=bb hcap;have hge:=r.hrel.ge id _ hl hcap;have hgb:=r.hrel.geB hl hcap;obtain ⟨b,o1,v2,v4,v5,v3⟩:∃b o1,a.eval x1 = .slice (some ⟨b,o1,none⟩) xs.length (c.pl id).cap/\xs.length<=(c.pl id).cap/\bU c.w (Imm c) b k o1 ((xs.drop 0).take xs.length)/\(0<(c.pl id).cap->b=(c.pl id).gb/\o1=0):=by
  rcases hv1 with ⟨_,v2,v3⟩|⟨b,o1,cap,v2,v4,v5,v3⟩
  ·have:=v3 (by omega);omega
  ·obtain ⟨v6,v3'⟩:=v3 (by omega)
   simp only [aaM,aaL] at v6 v3';subst v6;exact ⟨b,o1,v2,v4,v5,v3'⟩
 obtain ⟨hk1,olds,p2,p3,p4,p5⟩:=bU.flat b4;have hsz:xs.length * k<=vs.size:=by rw [b2];exact Y5 _ b3
 have hold:vs.toList.take (xs.length * k)=olds:=by
  apply ZW;intro j;rw [ON];by_cases hj:j<xs.length * k
  ·rw [if_pos hj]
   have hj' : j<olds.length:=by omega
   have:=p4 j olds[j] (AN hj');rw [bO b1] at this;rw [AN hj'];simpa using this
  ·rw [if_neg hj,Y2 (by omega)]
 have S7:∀o',Imm c (c.pl id).gb o'->o' < xs.length * k:=by
  intro o' hi
  rcases hi with hi|⟨_,_,g3⟩
  ·exact (hge hi.1).elim
  ·obtain ⟨k',xs',hh,h4⟩:=g3 id _ hl hcap rfl
   injection hh with h5 h6
   subst h5 h6;exact h4
 have hinj:∀(b' : Blk) (p' : Pl) (w' : World),(p'.gb=(c.pl id).gb\/c.w.heap.size<=p'.gb)->∀id' x,look (c.aH id b' p' w').heap id' = some x->Ph ((c.aH id b' p' w').pl id') x->((c.aH id b' p' w').pl id').gb=p'.gb->id' = id:=by
  intro b' p' w' hp id' x hx hph hg;by_cases hid:id=id'
  ·exact hid.symm
  ·exfalso
   rw [(bj hid).1] at hx;rw [(bj hid).2] at hg hph;have:=r.hrel.i6 hx hph
   rcases hp with hp|hp
   ·exact hid (r.hrel.inj id' id x _ hx hl hph hcap (by rw [hg,hp])).symm
   ·omega
 have zero:ys=[]->(∃xb xc,a.eval x2 = .slice xb 0 xc)->o.wp P a c.w K Qx:=by
  rintro rfl ⟨xb,xc,hx2⟩;simp only [Z1,ZK,ZR] at h;have yu:∀o',Imm c (c.pl id).gb o'->c.w.cell? ⟨(c.pl id).gb,o',none⟩=c.w.cell? ⟨(c.pl id).gb,o',none⟩/\((c.pl id).gb=(c.pl id).gb->∃k' xs',Blk.arr k xs = .arr k' xs'/\o' < xs'.length * k'):=
   fun o' hi=>⟨rfl,fun _=>⟨k,xs,rfl,S7 o' hi⟩⟩
  have hbe:cD (c.pl id) (c.pl id) (.arr k xs) (.arr k xs):=⟨rfl,⟨[],by simp⟩,fun _=>rfl⟩
  have hev:=Evo.aH (p':=c.pl id) (b':=.arr k xs) r.hrel hl (fun _ _ _=>rfl) (Ls _) (.inl ⟨rfl,fun _=>hcap⟩) (fun _=>yu) hbe;have hrel:Rel (c.aH id (.arr k xs) (c.pl id) c.w) w0 n gs { st with heap:=(id,.arr k xs)::st.heap } a:=by
   refine r.aH hl (fun _ _ _=>rfl) (Ls _) (Below.refl _ _) (.inl ⟨rfl,fun _=>hcap⟩) (fun _=>yu) hbe (fun hev=>?_);refine ⟨by rw [af.2];exact b3,fun _=>⟨vs,e',by rw [af.2];exact b1,by rw [af.2];exact b2,by rw [af.2];exact bU.keep hev.keeps _ _ _ _ b4⟩⟩
  refine bP (w':=c.w) (bk ho hb hx ht ?_) (hK (c.aH id (.arr k xs) (c.pl id) c.w) _ (.ref id 0 0 xs.length) (a.eval x1) rfl rfl hrel rfl ?_ h)
  ·rw [v2,hx2]
   obtain ⟨i,z,zs,hi,_⟩:=he.info;exact eH he.und hi (by omega)
  ·simp only [aD,af.1]
   refine ⟨by omega,.inr ⟨b,o1,(c.pl id).cap,v2,v4,bU.keep hev.keeps _ _ _ _ v5,fun _=>?_⟩⟩;rw [af.2];exact ⟨rfl,by simpa using v3⟩
 rcases e2 with ⟨⟨_,e2⟩,rfl⟩|⟨bb,o',cp,us,e2,e3,e4,e5,e6,e7,e8⟩
 ·exact zero rfl ⟨_,0,e2⟩
 ·by_cases hy0:ys=[]
  ·exact zero hy0 ⟨_,cp,by rw [e2,hy0];rfl⟩
  ·have hpos' : 0<ys.length:=by cases ys<;>simp_all
   have hk2:∀x∈xs++ys,x.length=k:=fun x hx=>by rcases Za.1 hx with hx|hx;exact hk1 x hx;exact e4 x hx
   have hfl:aQ c.w (Imm c) (xs++ys).flatten (olds++us):=by rw [aaH];exact p2.append e5
   have FD:∀v∈olds++us,one v=true:=fun v hv=>by rcases Za.1 hv with hv|hv;exact p5 v hv;exact e8 v hv
   have wK:(xs++ys).length=xs.length+ys.length:=Zs;have hne:(xs++ys=xs->False):=fun hh=>by have:=congrArg List.length hh;rw [Zs] at this;omega
   -- it moves
   have moved:∀(w' : World) (cap' : Nat) (vs' : Array Value),(Builtin.append_ #[t,t] o.type #[a.eval x1,a.eval x2]).run P c.w = .ok (.slice (some ⟨c.w.heap.size,0,none⟩) (xs.length+ys.length) cap') w'->xs.length+ys.length<=cap'->w' = c.w.drew.alloc (.cells vs' e)->vs'.size=cap' * k->
     vs'.toList.take ((xs.length+ys.length) * k)=olds++us->o.wp P a c.w K Qx:=by
    rintro w' cap' vs' hw' hroom rfl hs' htake;have hbel:Below c.B c.w (c.w.drew.alloc (.cells vs' e)):=(Below.refl c.B c.w).drew.alloc r.hrel.zc _;have hblk:(c.w.drew.alloc (.cells vs' e)).heap[c.w.heap.size]? = some (.cells vs' e (0,0)):=by
     show (c.w.heap.push (.cells vs' e))[c.w.heap.size]? = _;simp
    have hlt:=r.hrel.i6 hl hcap;have yu:∀o',Imm c (c.pl id).gb o'->(c.w.drew.alloc (.cells vs' e)).cell? ⟨(c.pl id).gb,o',none⟩=c.w.cell? ⟨(c.pl id).gb,o',none⟩/\(c.w.heap.size=(c.pl id).gb->∃k' xs',Blk.arr k (xs++ys) = .arr k' xs'/\o' < xs'.length * k'):=
     fun o' hi=>⟨cell_of_block (Below.heap_alloc c.w.drew _ _ hlt),fun hh=>by omega⟩
    have hbe:cD (c.pl id) ⟨c.w.heap.size,cap'⟩ (.arr k xs) (.arr k (xs++ys)):=⟨rfl,⟨ys,rfl⟩,fun hh=>(hne hh).elim⟩
    have hsz2:c.w.heap.size<=(c.w.drew.alloc (.cells vs' e)).heap.size:=by rw [show (c.w.drew.alloc (Obj.cells vs' e)).heap=c.w.heap.push (.cells vs' e) from rfl];simp
    have hev:=Evo.aH (p':=⟨c.w.heap.size,cap'⟩) (b':=.arr k (xs++ys)) (w':=c.w.drew.alloc (.cells vs' e)) r.hrel hl (fun k' hk' _=>Below.heap_alloc c.w.drew _ _ hk') hsz2 (.inr (Ls _)) (fun _=>yu) hbe;have hE:bU (c.aH id (.arr k (xs++ys)) ⟨c.w.heap.size,cap'⟩ (c.w.drew.alloc (.cells vs' e))).w (Imm (c.aH id (.arr k (xs++ys)) ⟨c.w.heap.size,cap'⟩ (c.w.drew.alloc (.cells vs' e)))) c.w.heap.size k 0 (xs++ys):=
     D6 (w0':=w0) (next:=0) af.1 af.2 hblk (r.hrel.rN (Ls _)) (hinj _ _ _ (.inr (Ls _))) hk2 (aQ.keep hev.keeps _ _ hfl) FD (by rw [wK];exact htake)
    have hrel:Rel (c.aH id (.arr k (xs++ys)) ⟨c.w.heap.size,cap'⟩ (c.w.drew.alloc (.cells vs' e))) w0 n gs { st with heap:=(id,.arr k (xs++ys))::st.heap } a:=by
     refine r.aH hl (fun k' hk' _=>Below.heap_alloc c.w.drew _ _ hk') hsz2 hbel (.inr (Ls _)) (fun _=>yu) hbe (fun _=>?_);exact ⟨by rw [af.2,wK];exact hroom,fun _=>⟨vs',e,by rw [af.2];exact hblk,by rw [af.2];exact hs',by rw [af.2];exact hE⟩⟩
    refine bP (bk ho hb hx ht hw') (hK (c.aH id (.arr k (xs++ys)) ⟨c.w.heap.size,cap'⟩ (c.w.drew.alloc (.cells vs' e))) _ (.ref id 0 0 (xs.length+ys.length)) _ rfl rfl hrel rfl ?_ h);simp only [aD,af.1];refine ⟨by omega,.inr ⟨c.w.heap.size,0,cap',rfl,hroom,?_,fun _=>?_⟩⟩
    ·rw [YY,i5 (by omega)];exact hE
    ·rw [af.2];simp
   ·obtain ⟨rfl,rfl⟩:=v3 hcap
    rcases xX (ty:=o.type) (cp:=cp) he b1 b2 b3 (by rw [hold];exact p5) e6 e7 e8 hby with ⟨w',hw',hroom,L⟩|⟨w',cap',vs',hw',hroom,hw2,hs',htake⟩
    ·have hlk:xs.length * k+us.length<=vs.size:=by rw [e6,b2,<- Y6];exact Y5 _ hroom
     have Qs:(fS vs (xs.length * k) us).toList.take ((xs++ys).length * k)=olds++us:=by
      rw [<- hold];refine zh ?_ ?_
      ·rw [wK,e6,Y6]
      ·rw [wK,b2];exact Y5 _ hroom
     have yu:∀o',Imm c (c.pl id).gb o'->w'.cell? ⟨(c.pl id).gb,o',none⟩=c.w.cell? ⟨(c.pl id).gb,o',none⟩/\((c.pl id).gb=(c.pl id).gb->∃k' xs',Blk.arr k (xs++ys) = .arr k' xs'/\o' < xs'.length * k'):=by
      intro o' hi;have hlt:=S7 o' hi;refine ⟨?_,fun _=>⟨k,xs++ys,rfl,by rw [wK,Y6];omega⟩⟩;rw [bO L.here,bO b1,<- Zx,fk,i7,if_neg (by omega),Zx]
     have hbe:cD (c.pl id) (c.pl id) (.arr k xs) (.arr k (xs++ys)):=⟨rfl,⟨ys,rfl⟩,fun _=>rfl⟩
     have hev:=Evo.aH (p':=c.pl id) (b':=.arr k (xs++ys)) (w':=w') r.hrel hl (fun k' _ hk'=>L.other k' (hk' hcap)) (by rw [L.size];exact Ls _) (.inl ⟨rfl,fun _=>hcap⟩) (fun _=>yu) hbe;have hE:bU (c.aH id (.arr k (xs++ys)) (c.pl id) w').w (Imm (c.aH id (.arr k (xs++ys)) (c.pl id) w')) (c.pl id).gb k 0 (xs++ys):=
      D6 (w0':=w0) (next:=0) (cap:=(c.pl id).cap) af.1 af.2 L.here hge (hinj _ _ _ (.inl rfl)) hk2 (aQ.keep hev.keeps _ _ hfl) FD Qs
     have hrel:Rel (c.aH id (.arr k (xs++ys)) (c.pl id) w') w0 n gs { st with heap:=(id,.arr k (xs++ys))::st.heap } a:=by
      refine r.aH hl (fun k' _ hk'=>L.other k' (hk' hcap)) (by rw [L.size];exact Ls _) (L.below hgb) (.inl ⟨rfl,fun _=>hcap⟩) (fun _=>yu) hbe (fun _=>?_);exact ⟨by rw [af.2,wK];exact hroom,fun _=>⟨_,e',by rw [af.2];exact L.here,by rw [af.2,nE];exact b2,by rw [af.2];exact hE⟩⟩
     refine bP (w':=w') (bk ho hb hx ht (by rw [v2,e2];exact hw')) (hK (c.aH id (.arr k (xs++ys)) (c.pl id) w') _ (.ref id 0 0 (xs.length+ys.length)) _ rfl rfl hrel rfl ?_ h);simp only [aD,af.1];refine ⟨by omega,.inr ⟨(c.pl id).gb,0,(c.pl id).cap,rfl,hroom,?_,fun _=>?_⟩⟩
     ·rw [YY,i5 (by omega)];exact hE
     ·rw [af.2];simp
    ·exact moved w' cap' vs' (by rw [v2,e2];exact hw') hroom hw2 hs' (by rw [<- hold];exact htake)
end
end Uw
namespace Uw
open Go Go.RowKit
variable [Glob]
section
variable {P : Program} {Q : az -> St -> Prop} {q : V -> St -> Tree} {c : Cx} {w0 : World} {n : Nat} {gs : Fr} {st : St} {a : Act} {K : Act -> World -> Prop} {Qx : Exit -> Act -> World -> Prop} {o : Oper} {xx : az -> St -> Tree}
theorem FG {vb:Option Bool} {T:Tree} (h:WT P Q (Fh vb T)):vb≠some false/\WT P Q T:=by
 cases vb with
 | none=>exact ⟨by simp,h⟩
 | some b=>
  simp only [Fh,WT] at h
  cases b with
  | true=>exact ⟨by simp,h.1 rfl⟩
  | false=>exact (h.2 rfl).elim
theorem fC {b:Bool} {T:Tree} (h:WT P Q (.test b T .fail)):b=true/\WT P Q T:=by
 simp only [WT] at h
 cases b with
 | true=>exact ⟨rfl,h.1 rfl⟩
 | false=>exact (h.2 rfl).elim
theorem H7 (r:Rel c w0 n gs st a) (hK:bf P Q q c w0 n gs st a o.dst K) {cl:Call} {x1 x2:Operand} {t e:TypeId} {m:Bool} {k bytes:Nat} (ho:o.op = .call cl) (hb:cl.callee = .builtin .append) (hx:cl.args.toList=[x1,x2]) (ht:cl.argTypes.toList=[t,t])
  (he:rn P t e k bytes) {xa:Option Addr} (hxa:a.eval x1 = .slice xa 0 0) {ys:List (List Dat)} (e2:FB c k (a.eval x2) ys) (hy0:ys≠[]) (hd:ys.length * bytes<=70368744177664)
  (h:WT P Q (q (.ref st.next 0 0 ys.length) (dY st (cb m k ys)))):o.wp P a c.w K Qx:=by
 obtain ⟨i,z,zs,hi,hsz,hby,hzero,hzs,hzk⟩:=he.info;have nG:=he.und;have hlen:ys.length<=70368744177664:=Zn (Zz _ he.pos) hd
 rcases e2 with ⟨⟨_,e2⟩,rfl⟩|⟨b,o',cp,us,e2,e3,e4,e5,e6,e7,e8⟩
 ·exact absurd rfl hy0
 ·have hpos' : 0<ys.length:=by cases ys<;>simp_all
  have hge:=grownCap_ge c.w ys.length 0 e;obtain ⟨c',pB,pJ,pw,p1,p2⟩:=wJ r m (e:=e) (z:=z) (cap:=grownCap c.w ys.length 0 e) e4 e5 e8 hzk rfl hge;refine bP (bk ho hb hx ht ?_) (hK c' _ _ _ pB pJ p1 rfl p2 h)
  cases xa with
  | none=>
   rw [hxa,e2,pw];exact run_append_nil c.w t o.type e i z nG hi hzero ⟨b,o',none⟩ ys.length cp us (by rw [hsz];exact e6) (fun j v hv=>by rw [addr_add];exact e7 j v hv) hpos' (by omega) (by rw [hby];omega)
  | some p=>
   rw [hxa,e2,pw];have:=run_append_grow c.w t o.type e i z nG hi hzero p 0 0 [] (by simp) (by simp) ⟨b,o',none⟩ ys.length cp us (by rw [hsz];exact e6) (fun j v hv=>by rw [addr_add];exact e7 j v hv)
    (by omega) (by omega) (growslice_fits (by omega) (by rw [hby,Y9];omega))
   simpa using this
theorem KD (r:Rel c w0 n gs st a) (hK:bf P Q q c w0 n gs st a o.dst K) {cl:Call} {x1 x2:Operand} {t e:TypeId} {m:Bool} {k bytes:Nat} (ho:o.op = .call cl) (hb:cl.callee = .builtin .append) (hx:cl.args.toList=[x1,x2]) (ht:cl.argTypes.toList=[t,t])
  (he:rn P t e k bytes) {xa:Option Addr} (hxa:a.eval x1 = .slice xa 0 0) (Bm : xa=none\/∃b o,xa=some ⟨b,o,none⟩) {ys:List (List Dat)} (e2:FB c k (a.eval x2) ys) (hd:ys.length * bytes<=70368744177664)
  (h:WT P Q (q (.ref st.next 0 0 ys.length) (dY st (cb m k ys)))):o.wp P a c.w K Qx:=by
 obtain ⟨i,z,zs,hi,hsz,hby,hzero,hzs,hzk⟩:=he.info;have nG:=he.und;have hlen:ys.length<=70368744177664:=Zn (Zz _ he.pos) hd;have stay:ys=[]->(∃xb xc,a.eval x2 = .slice xb 0 xc)->o.wp P a c.w K Qx:=by
  rintro rfl ⟨xb,xc,hx2⟩;obtain ⟨p1,p2⟩:=MS r m k Bm;refine bP (w':=c.w) (bk ho hb hx ht ?_) (hK (c.zero st.next (cb m k [])) _ _ _ rfl rfl p1 rfl p2 h);rw [hxa,hx2];exact eH nG hi (by omega)
 rcases e2 with ⟨⟨_,e2⟩,rfl⟩|⟨b,o',cp,us,e2,e3,e4,e5,e6,e7,e8⟩
 ·exact stay rfl ⟨_,0,e2⟩
 ·by_cases hy0:ys=[]
  ·exact stay hy0 ⟨_,cp,by rw [e2,hy0];rfl⟩
  ·have hpos' : 0<ys.length:=by cases ys<;>simp_all
   have hge:=grownCap_ge c.w ys.length 0 e;obtain ⟨c',pB,pJ,pw,p1,p2⟩:=wJ r m (e:=e) (z:=z) (cap:=grownCap c.w ys.length 0 e) e4 e5 e8 hzk rfl hge;refine bP (bk ho hb hx ht ?_) (hK c' _ _ _ pB pJ p1 rfl p2 h)
   rcases Bm with rfl|⟨b1,o1,rfl⟩
   ·rw [hxa,e2,pw]
    exact run_append_nil c.w t o.type e i z nG hi hzero ⟨b,o',none⟩ ys.length cp us (by rw [hsz];exact e6) (fun j v hv=>by rw [addr_add];exact e7 j v hv) hpos' (by omega) (by rw [hby];omega)
   ·rw [hxa,e2,pw]
    have:=run_append_grow c.w t o.type e i z nG hi hzero ⟨b1,o1,none⟩ 0 0 [] (by simp) (by simp) ⟨b,o',none⟩ ys.length cp us (by rw [hsz];exact e6) (fun j v hv=>by rw [addr_add];exact e7 j v hv)
     (by omega) (by omega) (growslice_fits (by omega) (by rw [hby,Y9];omega))
    simpa using this
theorem MX (r:Rel c w0 n gs st a) (hK:bf P Q q c w0 n gs st a o.dst K) {cl:Call} {x1 x2:Operand} {y1 y2:Opd} {t e:TypeId} {m:Bool} {k bytes:Nat} (ho:o.op = .call cl) (hb:cl.callee = .builtin .append) (hx:cl.args.toList=[x1,x2]) (ht:cl.argTypes.toList=[t,t])
  (he:rn P t e k bytes) (hc1:ao x1=some y1) (hc2:ao x2=some y2) (h:WT P Q (step (.app m k bytes y1 y2) st q xx)):o.wp P a c.w K Qx:=by
 obtain ⟨i,z,zs,hi,hsz,hby,hzero,hzs,hzk⟩:=he.info;have nG:=he.und;have hpos:=he.pos;simp only [step] at h
 split at h
 ·rename_i bv yv hv1 hv2
  split at h
  ·rename_i vb ys hys
   replace h:=FG h
   obtain ⟨hvb,h⟩:=h;have e2:=src_ok r (aF r hc2 hv2) hys hvb;have e1:=aF r hc1 hv1
   split at h
   ·-- nil
    simp only [aD,aG] at e1
    replace h:=fC h
    obtain ⟨hd,h⟩:=h;exact KD r hK ho hb hx ht he e1 (.inl rfl) e2 (of_decide_eq_true hd) h
   ·-- a slice whose capacity is its length
    rename_i k' xs
    split at h
    ·rename_i hkk
     have hkk:=wt hkk;subst hkk;simp only [WT] at h;obtain ⟨h1,h2⟩:=h
     cases hxe:xs.isEmpty with
     | true=>
      have h:=h1 hxe;obtain ⟨hd,h⟩:=fC (P:=P) (Q:=Q) (b:=decide (ys.length * bytes<=70368744177664)) (T:=.test ys.isEmpty (q (.d (.slice k xs true)) st) (q (.ref st.next 0 0 ys.length) (dY st (cb m k ys)))) (by simpa only [WT] using h);have hxs:xs=[]:=by simpa using hxe
      subst hxs;have hbase:aD c (.d (.slice k [] true)) (a.eval x1):=e1;simp only [aD,aG] at e1;have e3:∃xa,a.eval x1 = .slice xa 0 0:=by
       rcases e1 with ⟨⟨xa,e1,_⟩,_⟩|⟨bb,oo,cap,f1,f2,f3,f4⟩
       ·exact ⟨xa,e1⟩
       ·have f3:=f3 trivial
        subst f3;exact ⟨_,f1⟩
      obtain ⟨xa,e3⟩:=e3;simp only [WT] at h;obtain ⟨g1,g2⟩:=h;by_cases hy0:ys=[]
      ·subst hy0
       have e4:∃xb xc,a.eval x2 = .slice xb 0 xc:=by
        rcases e2 with ⟨⟨_,e2⟩,_⟩|⟨b,o',cp,us,e2,_⟩
        ·exact ⟨_,0,e2⟩
        ·exact ⟨_,cp,e2⟩
       obtain ⟨xb,xc,e4⟩:=e4;refine aP r hK hbase (g1 rfl) (bk ho hb hx ht ?_);rw [e3,e4];exact eH nG hi (Ls _)
      ·exact H7 r hK ho hb hx ht he e3 e2 hy0 (of_decide_eq_true hd) (g2 (by cases ys<;>simp_all))
     | false=>
      have h:=h2 hxe;have hxn:xs≠[]:=by intro hh;subst hh;simp at hxe
      have hbase:aD c (.d (.slice k xs true)) (a.eval x1):=e1;simp only [aD,aG] at e1
      rcases e1 with ⟨_,e1⟩|⟨bb,oo,cap,f1,f2,f3,f4⟩
      ·exact (hxn e1).elim
      have f3:=f3 trivial;obtain ⟨q1,olds,q2,q3,q4,q5⟩:=bU.flat f4;obtain ⟨h,hf⟩:=h
      cases hd:decide ((xs.length+ys.length) * bytes<=70368744177664) with
      | false=>exact (hf hd).elim
      | true=>
       obtain ⟨g1,g2⟩:=h hd;simp only [decide_eq_true_eq] at hd;have hlen:xs.length+ys.length<=70368744177664:=Zn (Zz _ hpos) hd
       rcases e2 with ⟨⟨_,e2⟩,rfl⟩|⟨b,o',cp,us,e2,e3,e4,e5,e6,e7,e8⟩
       ·refine aP r hK hbase (g1 rfl) (bk ho hb hx ht ?_)
        rw [f1,e2];exact eH nG hi f2
       ·by_cases hy0:ys=[]
        ·subst hy0
         refine aP r hK hbase (g1 rfl) (bk ho hb hx ht ?_);rw [f1,e2];exact eH nG hi f2
        ·have hne:ys.isEmpty=false:=by cases ys<;>simp_all
         have hpos' : 0<ys.length:=by cases ys<;>simp_all
         have hge:=grownCap_ge c.w (xs.length+ys.length) cap e;obtain ⟨c',pB,pJ,pw,p1,p2⟩:=wJ r m (e:=e) (z:=z) (need:=xs.length+ys.length) (cap:=grownCap c.w (xs.length+ys.length) cap e) (k:=k) (xs:=xs++ys) (us:=olds++us)
          (fun x hx=>by rcases Za.1 hx with hx|hx;exact q1 x hx;exact e4 x hx) (by rw [aaH];exact q2.append e5)
          (fun v hv=>by rcases Za.1 hv with hv|hv;exact q5 v hv;exact e8 v hv) hzk (by simp) hge
         rw [Zs] at p2;refine bP (bk ho hb hx ht ?_) (hK c' _ _ _ pB pJ p1 rfl p2 (g2 hne));rw [f1,e2,pw];have:=run_append_grow c.w t o.type e i z nG hi hzero ⟨bb,oo,none⟩ xs.length cap olds (by rw [hsz];exact q3) (fun j v hv=>by rw [addr_add];exact q4 j v hv) ⟨b,o',none⟩ ys.length cp us (by rw [hsz];exact e6) (fun j v hv=>by rw [addr_add];exact e7 j v hv)
          (by omega) (by omega) (growslice_fits (by omega) (by rw [hby];omega))
         rw [this];simp
    ·exact h.elim
   ·rename_i id ver len
    split at h
    ·rename_i k' xs hl
     split at h
     ·rename_i hkk
      have hkk:=wt hkk;subst hkk;obtain ⟨hd,g⟩:=fC h;simp only [i9,decide_eq_true_eq] at hd;exact Qu r hK ho hb hx ht he hl e1 e2 hd.1 hd.2 g
     ·exact h.elim
    ·rename_i k' c8 xs hl
     split at h
     ·rename_i hkk
      have h1:=wt hkk;subst h1
      replace h:=fC h
      obtain ⟨hv,h⟩:=h;have h2:=wt hv;subst h2;obtain ⟨hd,g⟩:=fC h;simp only [decide_eq_true_eq] at hd;exact UA r hK ho hb hx ht he hl e1 e2 hd g
     ·exact h.elim
    ·exact h.elim
   ·exact h.elim
  ·exact h.elim
 ·exact h.elim
theorem cT (r:Rel c w0 n gs st a) {x:Option Operand} {y:Option Opd} {d i:Int} (hx:(match x with|none=>some none|some z=>(ao z).map some)=some y) (h:bY st d y=some i) :
  (x=none/\y=none/\i=d)\/∃z k,x=some z/\a.eval z = .int k i:=by
 cases x with
 | none=>
  simp at hx;subst hx;simp [bY] at h;exact .inl ⟨rfl,rfl,h.symm⟩
 | some z=>
  simp only [Pe] at hx;obtain ⟨y',hy',rfl⟩:=hx;simp only [bY] at h
  split at h
  ·rename_i k m hv
   simp at h;subst h;have e:=aF r hy' hv;simp only [aD,aG] at e;exact .inr ⟨z,k,rfl,e⟩
  ·simp at h
theorem uh (x:Option Operand):jo x=(match x with|none=>some none|some z=>(ao z).map some):=by cases x<;>rfl
theorem iC {isS:Bool} {len cap:Nat} {lo hi:Option Operand} {l h:Int} {w:World} (hlo:(lo=none/\l=0)\/∃z k,lo=some z/\a.eval z = .int k l) (hhi:(hi=none/\h=len)\/∃z k,hi=some z/\a.eval z = .int k h)
  (h0:0<=l) (h1:l<=h) (h2:h<=cap):(Instr.sliceBounds isS len cap (lo.map a.eval) (hi.map a.eval) none).run P w = .ok (l.toNat,h.toNat,cap) w:=by
 have hh0:0<=h:=by omega
 unfold Instr.sliceBounds
 rcases hlo with ⟨rfl,rfl⟩|⟨z,k,rfl,hz⟩
 ·rcases hhi with ⟨rfl,rfl⟩|⟨z',k',rfl,hz'⟩
  ·simp
  ·simp [hz',Instr.sliceBound,asIntOf,hh0,h2]
 ·rcases hhi with ⟨rfl,rfl⟩|⟨z',k',rfl,hz'⟩
  ·simp [hz,Instr.sliceBound,asIntOf,h0,h1]
  ·have:(h.toNat:Int)=h:=by omega
   simp [hz,hz',Instr.sliceBound,asIntOf,h0,h1,hh0,h2,this]
theorem MY (r:Rel c w0 n gs st a) (hK:bf P Q q c w0 n gs st a o.dst K) {t:TypeId} {x:Operand} {lo hi:Option Operand} {y:Opd} {lo' hi' : Option Opd} (ho:o.op = .slice t x lo hi none) (hu:P.underlying t=some .string)
  (hc:ao x=some y) (hl:jo lo=some lo') (hh:jo hi=some hi') (h:WT P Q (step (.xR y lo' hi') st q xx)):o.wp P a c.w K Qx:=by
 simp only [step] at h
 split at h
 ·rename_i s hv
  have e1:=aF r hc hv;simp only [aD,aG] at e1
  split at h
  ·rename_i l u hl' hu'
   simp only [WT] at h
   cases hd:(decide (0<=l)&&decide (l<=u)&&decide (u<=(s.length:Int))) with
   | false=>exact (h.2 hd).elim
   | true=>
    have g:=h.1 hd;simp only [i9,decide_eq_true_eq] at hd;rw [uh] at hl hh;have r1:=cT r hl hl';have r2:=cT r hh hu';have hb:=iC (P:=P) (isS:=false) (w:=c.w) (len:=s.length) (cap:=s.length) (a:=a) (r1.imp (fun h=>⟨h.1,h.2.2⟩) id) (r2.imp (fun h=>⟨h.1,h.2.2⟩) id) hd.1.1 hd.1.2 hd.2;refine aP r hK (gv:=.string ⟨((s.take u.toNat).drop l.toNat).toArray⟩) (by simp [aD,aG]) g ?_;have hsz:(⟨s.toArray⟩:ByteArray).size=s.length:=by simp [ByteArray.size]
    have hex:(⟨s.toArray⟩:ByteArray).extract l.toNat u.toNat=⟨((s.take u.toNat).drop l.toNat).toArray⟩:=by
     apply ByteArray.ext;simp [ByteArray.data_extract,aaE]
    simp only [execOp,ho];have:(Instr.sliceAt t (a.eval x) (lo.map a.eval) (hi.map a.eval) (Option.map a.eval none)).run P c.w = .ok (.string ⟨((s.take u.toNat).drop l.toNat).toArray⟩) c.w:=by
     simp only [Instr.sliceAt,Instr.slice,e1,aaf];rw [run_bind_ok (bq hu)];simp only [];rw [run_bind_ok (bq hu)];simp [hsz,hb,hex]
    rw [run_bind_ok this];rfl
  ·exact h.elim
 ·exact h.elim
end
end Uw
