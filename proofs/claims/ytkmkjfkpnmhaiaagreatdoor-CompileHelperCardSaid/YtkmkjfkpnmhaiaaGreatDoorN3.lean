/- N3: Uz4 Uz5 Uz6 Uz7 Uz8 Uz9 Uza Uze Uzf Uzg Uzh Uzi Uzb Uzc Uzk Uzl Uzd (merged by merge2.py from the working texts). -/
import Derived.Test.YtkmkjfkpnmhaiaaGreatDoorN2
import Derived.Carry
import Derived.ProofKit
import Derived.OpenShut
import Derived.SizedLaws
import Derived.Lib.SpaceUEq
import Derived.RangeFuncNested
import Derived.RangeFuncLeaves
set_option linter.unusedSimpArgs false
set_option linter.unnecessarySimpa false
set_option linter.unusedVariables false
set_option linter.unusedSectionVars false
namespace Uw
open Go Go.RowKit
variable [Glob]
mutual
inductive DLe:Dat->Dat->Prop
 | refl (d:Dat):DLe d d
 | nil (k:Nat):DLe .nil (.slice k [] false)
 | slice {k:Nat} {xs ys:List (List Dat)} {z:Bool} (h:AA xs ys):DLe (.slice k xs z) (.slice k ys false)
 | agg {cs ds:List Dat} (h:uO cs ds):DLe (.agg cs) (.agg ds)
 | tuple {cs ds:List Dat} (h:uO cs ds):DLe (.tuple cs) (.tuple ds)
inductive uO:List Dat->List Dat->Prop
 | refl (l:List Dat):uO l l
 | cons {a b:Dat} {as bs:List Dat} (h:DLe a b) (h2:uO as bs):uO (a::as) (b::bs)
inductive AA:List (List Dat)->List (List Dat)->Prop
 | refl (l:List (List Dat)):AA l l
 | cons {a b:List Dat} {as bs:List (List Dat)} (h:uO a b) (h2:AA as bs):AA (a::as) (b::bs)
end
mutual
theorem DLe.rel {w:World} {J:Nat->Nat->Prop}:∀{d d' : Dat},DLe d d'->∀{v:Value},aE w J d v->aE w J d' v
 | _,_,.refl d,v,r=>r
 | _,_,.nil k,v,r=>.inl ⟨⟨_,r,by simp⟩,rfl⟩
 | _,_,.slice h,v,.inl ⟨⟨x,r1,_⟩,r2⟩=>.inl ⟨⟨x,r1,by simp⟩,by subst r2;cases h;rfl⟩
 | _,_,.slice h,v,.inr ⟨b,o,cap,h1,h2,h3,h4⟩=>.inr ⟨b,o,cap,by rw [<- h.len];exact h1,by rw [<- h.len];exact h2,by simp,h.rel h4⟩
 | _,_,.agg h,v,⟨vs,h1,h2⟩=>⟨vs,h1,h.rel h2⟩
 | _,_,.tuple h,v,⟨vs,h1,h2⟩=>⟨vs,h1,h.rel h2⟩
theorem uO.rel {w:World} {J:Nat->Nat->Prop}:∀{d d' : List Dat},uO d d'->∀{vs:List Value},aX w J d vs->aX w J d' vs
 | _,_,.refl l,vs,r=>r
 | _,_,.cons h h2,vs,⟨v,vs',e1,e2,e3⟩=>⟨v,vs',e1,h.rel e2,h2.rel e3⟩
theorem uO.UH {w:World} {J:Nat->Nat->Prop} {b:Nat}:∀{d d' : List Dat},uO d d'->∀{o:Nat},dO w J b o d->dO w J b o d'
 | _,_,.refl l,o,r=>r
 | _,_,.cons h h2,o,⟨⟨v,e1,e2,e3,e4⟩,e5⟩=>⟨⟨v,e1,e2,e3,h.rel e4⟩,h2.UH e5⟩
theorem AA.rel {w:World} {J:Nat->Nat->Prop} {b k:Nat}:∀{d d' : List (List Dat)},AA d d'->∀{o:Nat},cB w J b k o d->cB w J b k o d'
 | _,_,.refl l,o,r=>r
 | _,_,.cons h h2,o,⟨e1,e2,e3⟩=>⟨by rw [<- h.len];exact e1,h.UH e2,h2.rel e3⟩
theorem uO.len:∀{d d' : List Dat},uO d d'->d.length=d'.length
 | _,_,.refl l=>rfl
 | _,_,.cons h h2=>by simp [h2.len]
theorem AA.len:∀{d d' : List (List Dat)},AA d d'->d.length=d'.length
 | _,_,.refl l=>rfl
 | _,_,.cons h h2=>by simp [h2.len]
end
theorem Ret.args {P:Program} {f:FuncId} {ds ds' : List Dat} {r:Dat} (h:Ret P f ds' r) (hl:uO ds ds'):Ret P f ds r:=fun w J vs hg hr=>h w J vs hg (hl.rel hr)
theorem Ret.res {P:Program} {f:FuncId} {ds:List Dat} {r r' : Dat} (h:Ret P f ds r) (hl:DLe r r'):Ret P f ds r':=fun w J vs hg hr=>(h w J vs hg hr).mono (by
 rintro e w' ⟨v,e1,e2,e3⟩;exact ⟨v,e1,hl.rel e2,e3⟩)
theorem LC {P:Program} {Q:aH->St->Prop} {b:Bool} {y:Tree} (hb:b=true) (h1:WT P Q y):WT P Q (.test b y .fail):=⟨fun _=>h1,fun h=>(by rw [hb] at h;cases h)⟩
theorem RP {P:Program} {Q:aH->St->Prop} {k:IntKind} {x:Int} {y n:Tree} (hb:inR k x=true) (h1:WT P Q y):WT P Q (.test (inR k x) y n):=⟨fun _=>h1,fun h=>(by rw [hb] at h;cases h)⟩
theorem dZ {ρ:Nat->Nat} {h h' : Heap} {b b' : Blk} (e:b=b'.ren ρ) (hc:b'.closed h' = true):nD ρ h h' b b':=by subst e;exact EZ hc
theorem cQ {ρ:Nat->Nat} {h h' : Heap} {k:IntKind} {a b:Int} (e:a=b):VW ρ h h' (.d (.int k a)) (.d (.int k b)):=by subst e;exact Or.inl ⟨rfl,rfl⟩
theorem yO {ρ:Nat->Nat} {h h' : Heap} {id ver off a b:Nat} (e:a=b) (hr:ρ id=id) (hc:(look h' id).isSome=true):VW ρ h h' (.ref id ver off a) (.ref id ver off b):=by subst e;exact Or.inl ⟨by rw [V.ren,hr],hc⟩
theorem LD {ρ:Nat->Nat} {h h' : Heap} {a b:List UInt8} (e:a=b):VW ρ h h' (.d (.str a)) (.d (.str b)):=by subst e;exact Or.inl ⟨rfl,rfl⟩
theorem RR {α:Type} {g:α->List Dat} {l:List α} {n:Nat} {xs:List (List Dat)} (h1:n=xs.length) (h2:xs=l.map g):(xs.drop 0).take n=l.map g:=by subst h1;rw [List.drop_zero,List.take_length,h2]
theorem CY {α β:Type} (g:α->β) (l:List α) (k:Nat) (h:k<l.length):(l.map g)[k]? = some (g l[k]):=by simp [h]
end Uw
namespace Uw
open Go Go.RowKit Go.ChangeShapes Go.WideShapes Go.ChangeAt
variable [Glob]
theorem sY {H:Type} {enc:TypeId×Value->H} {P:Program} {W W' : World} (hl:laidOutB P=true) (hb:Below W.heap.size W W'):∀{ts:List TypeId} {vs:List Value} {ds:List (DataW H)} {p:List MemPlace},
  (ts.all fun t=>P.readableRec t&&decide (t<P.types.size))=true->DataW.TrodAll enc P W 0 (fun _=>true) true ts vs ds p->(∀x∈p,x.block<W.heap.size)->DataW.TrodAll enc P W' 0 (fun b=>decide (b<W.heap.size)) true ts vs ds p
 | [],[],[],p,_,h,_=>h
 | t::ts,v::vs,d::ds,p,ht,⟨p1,q1,h1,h2,h3⟩,hlt=>by
  rw [List.all_cons,Bool.and_eq_true,Bool.and_eq_true] at ht;subst h3;exact ⟨p1,q1,Below.trod hl ht.1.1 (of_decide_eq_true ht.1.2) h1 hb (fun x hx=>hlt x (by simp [hx])),sY hl hb ht.2 h2 (fun x hx=>hlt x (by simp [hx])),rfl⟩
 | [],_::_,_,_,_,h,_=>h.elim
 | [],[],_::_,_,_,h,_=>h.elim
 | _::_,[],_,_,_,h,_=>h.elim
 | _::_,_::_,[],_,_,h,_=>h.elim
theorem yP {H:Type} {enc:TypeId×Value->H} {P:Program} {f:Func} {s:ChangeSpec} {apart fresh handsOn:Bool} {W W' : World} {args:Array Value} {v:Value} {ds gs:List (DataW H)} {before:List MemPlace} {tb:TypeId}
  (hl:laidOutB P=true) (hts:(f.params.toList.all fun t=>P.readableRec t&&decide (t<P.types.size))=true) (hrt:f.resultTypes = #[tb]) (htb:P.underlying tb=some .bool) (hvs:s.vars=[])
  (hW:DataW.Whole enc P f.params.toList s.vars apart W args.toList ds gs before) (hfn:s.fn H ds={ results:=[.lit (.bool true)],args:=ds }) (hb:Below W.heap.size W W') (hv:v = .bool true):s.post enc P f apart fresh handsOn false W args v W':=by
 have hW':=hW;obtain ⟨p,q,hA,hV,rfl,hfz,hnd⟩:=hW;rw [hvs] at hV;obtain ⟨rfl,rfl⟩:=trodVars_none hV;have hlt:∀x∈p,x.block<W.heap.size:=fun x hx=>by simpa using hW'.lt x (by simpa using hx)
 subst hv;refine ⟨ds,[],p++[],[],p,[],hW',?_,?_,?_,?_,by simp⟩
 ·rw [List.append_nil,hfn,hrt]
  exact trodAll_cons_mk (shut_bool htb _) trodAll_mk0
 ·rw [List.append_nil,hfn]
  exact sY hl hb hts hA hlt
 ·rw [hvs,List.append_nil,hfn]
  rfl
 ·exact World.keptBut_mono (fun _ h=>h.elim) (hb.frame (fun _=>False))
end Uw
namespace Uw
open Go Go.RowKit
variable [Glob]
inductive Ty where
 | bool
 | int (k:IntKind)
 | str
 | slice (n:Nat) (e:Ty)
 | struct (fs:List Ty)
abbrev JA:Nat->Nat->Prop:=fun _ _=>True
theorem dO.ofL {w:World} {b:Nat}:∀{ds:List Dat} {cs:List Value} {o:Nat},aX w JA ds cs->(∀v∈cs,one v=true)->(∀j v,cs[j]? = some v->w.cell? ⟨b,o+j,none⟩=some v)->dO w JA b o ds
 | [],cs,o,_,_,_=>by simp [dO]
 | d::ds,cs,o,⟨v,vs,e,h1,h2⟩,h3,h4=>by
  subst e;refine ⟨⟨v,by simpa using h4 0 v rfl,trivial,h3 v (by simp),h1⟩,dO.ofL h2 (fun u hu=>h3 u (by simp [hu])) (fun j u hu=>?_)⟩;have:=h4 (j+1) u (by simpa using hu);rw [show o+1+j=o+(j+1) by omega];exact this
theorem cB.of {w:World} {b k:Nat}:∀{xs:List (List Dat)} {o:Nat},(∀i x,xs[i]? = some x->x.length=k/\dO w JA b (o+i * k) x)->cB w JA b k o xs
 | [],o,_=>by simp [cB]
 | x::xs,o,h=>by
  have h0:=h 0 x rfl;refine ⟨h0.1,by simpa using h0.2,cB.of (fun i y hy=>?_)⟩;have:=h (i+1) y (by simpa using hy);rw [show o+k+i * k=o+(i+1) * k by rw [Nat.add_mul];omega];exact this
end Uw
namespace Uw
open Go Go.Lib
theorem vT (s:List UInt8) (i:Nat) (b:UInt8) (h:s[i]? = some b):(⟨s.toArray⟩:ByteArray).get! i=b:=by
 show s.toArray[i]! = b;rw [getElem!_def];simp [h]
theorem Bw (s:List UInt8) (pos:Nat):bP s pos=decodeN (s.length - pos) ((⟨s.toArray⟩:ByteArray).get! pos).toNat ((⟨s.toArray⟩:ByteArray).get! (pos+1)).toNat ((⟨s.toArray⟩:ByteArray).get! (pos+2)).toNat ((⟨s.toArray⟩:ByteArray).get! (pos+3)).toNat:=by
 rw [A3,decode_at];rfl
theorem tN (s:List UInt8) (pos:Nat) (b:UInt8) (h:s[pos]? = some b) (hb:b.toNat<128):bP s pos=(b.toNat,1):=by
 rw [Bw,vT s pos b h,decodeN,if_pos hb]
theorem CZ (n b0 b1 b2 b3:Nat) (h:128<=b0) (hb:b0<256):128<=(decodeN n b0 b1 b2 b3).1/\(decodeN n b0 b1 b2 b3).1<=1114111/\1<=(decodeN n b0 b1 b2 b3).2:=by
 unfold decodeN
 repeat' split
 all_goals (simp only;omega)
theorem wR (s:List UInt8) (pos:Nat) (b:UInt8) (h:s[pos]? = some b) (hb:128<=b.toNat) :
  128<=(bP s pos).1/\(bP s pos).1<=1114111/\1<=(bP s pos).2/\pos+(bP s pos).2<=s.length/\∀j,j<(bP s pos).2->∃c,s[pos+j]? = some c/\128<=c.toNat:=by
 have hlt:pos<s.length:=by
  rcases Nat.lt_or_ge pos s.length with h1|h1
  ·exact h1
  ·rw [List.getElem?_eq_none h1] at h;cases h
 have hg:=vT s pos b h;rw [Bw,hg];have h1:=CZ (s.length - pos) b.toNat ((⟨s.toArray⟩:ByteArray).get! (pos+1)).toNat ((⟨s.toArray⟩:ByteArray).get! (pos+2)).toNat ((⟨s.toArray⟩:ByteArray).get! (pos+3)).toNat hb b.toNat_lt;have h2:=decodeN_conts (s.length - pos) b.toNat ((⟨s.toArray⟩:ByteArray).get! (pos+1)).toNat ((⟨s.toArray⟩:ByteArray).get! (pos+2)).toNat ((⟨s.toArray⟩:ByteArray).get! (pos+3)).toNat;generalize decodeN (s.length - pos) b.toNat ((⟨s.toArray⟩:ByteArray).get! (pos+1)).toNat ((⟨s.toArray⟩:ByteArray).get! (pos+2)).toNat ((⟨s.toArray⟩:ByteArray).get! (pos+3)).toNat=r at h1 h2;obtain ⟨r1,r2⟩:=r;simp only at h1 h2 ⊢;obtain ⟨a1,a2,a3⟩:=h1;obtain ⟨c1,c2,c3,c4⟩:=h2;refine ⟨a1,a2,a3,by omega,fun j hj=>?_⟩;have hjl:pos+j<s.length:=by omega
 refine ⟨s[pos+j],by simp [hjl],?_⟩;have hgj:=vT s (pos+j) s[pos+j] (by simp [hjl])
 rcases j with _|_|_|_|j
 ·have:s[pos+0]=b:=by
   have:=h;rw [List.getElem?_eq_getElem hlt] at this;simpa using this
  rw [this];exact hb
 ·have:=(c1 (by omega)).1;rw [hgj] at this;omega
 ·have:=(c2 (by omega)).1;rw [hgj] at this;omega
 ·have:=(c3 (by omega)).1;rw [hgj] at this;omega
 ·omega
end Uw
namespace Uw
open Go
variable [Glob]
section
variable {P : Program} {Q : aH -> St -> Prop} {p q : Prop} [Decidable p] [Decidable q] {b : Bool} {y n : Tree}
theorem Hn (h1:p->WT P Q y) (h2:¬p->WT P Q n):WT P Q (.test (decide p) y n):=⟨fun h=>h1 (of_decide_eq_true h),fun h=>h2 (of_decide_eq_false h)⟩
theorem OA (h1:¬p->WT P Q y) (h2:p->WT P Q n):WT P Q (.test (!decide p) y n):=⟨fun h=>h1 (by simpa using h),fun h=>h2 (by simpa using h)⟩
theorem C0 (h1:p->WT P Q y) (h2:¬p->WT P Q n):WT P Q (.test (decide p == true) y n):=⟨fun h=>h1 (by simpa using h),fun h=>h2 (by simpa using h)⟩
theorem C2 (h1:¬p->WT P Q y) (h2:p->WT P Q n):WT P Q (.test (decide p == false) y n):=⟨fun h=>h1 (by simpa using h),fun h=>h2 (by simpa using h)⟩
theorem yQ (h1:¬p->WT P Q y) (h2:p->WT P Q n):WT P Q (.test ((!decide p) == true) y n):=⟨fun h=>h1 (by simpa using h),fun h=>h2 (by simpa using h)⟩
theorem yR (h1:p->WT P Q y) (h2:¬p->WT P Q n):WT P Q (.test ((!decide p) == false) y n):=⟨fun h=>h1 (by simpa using h),fun h=>h2 (by simpa using h)⟩
theorem LG (h1:b=true->WT P Q y) (h2:b=false->WT P Q n):WT P Q (.test (b == true) y n):=⟨fun h=>h1 (by simpa using h),fun h=>h2 (by simpa using h)⟩
theorem LH (h1:b=false->WT P Q y) (h2:b=true->WT P Q n):WT P Q (.test (b == false) y n):=⟨fun h=>h1 (by simpa using h),fun h=>h2 (by simpa using h)⟩
theorem LI (h1:b=false->WT P Q y) (h2:b=true->WT P Q n):WT P Q (.test (!b) y n):=⟨fun h=>h1 (by simpa using h),fun h=>h2 (by simpa using h)⟩
theorem UI (hb:b=true) (h1:WT P Q y):WT P Q (.test b y n):=⟨fun _=>h1,fun h=>(by rw [hb] at h;cases h)⟩
theorem RS (hp:p) (h1:WT P Q y):WT P Q (.test (decide p) y n):=⟨fun _=>h1,fun h=>absurd hp (of_decide_eq_false h)⟩
theorem UJ (hp:¬p) (h1:WT P Q n):WT P Q (.test (decide p) y n):=⟨fun h=>absurd (of_decide_eq_true h) hp,fun _=>h1⟩
theorem OB (hp:¬p) (h1:WT P Q y):WT P Q (.test (!decide p) y n):=⟨fun _=>h1,fun h=>absurd (by simpa using h) hp⟩
theorem RU (hp:p) (h1:WT P Q n):WT P Q (.test (!decide p) y n):=⟨fun h=>absurd hp (by simpa using h),fun _=>h1⟩
theorem UK (hp:p) (h1:WT P Q y):WT P Q (.test (decide p == true) y n):=C0 (fun _=>h1) (fun h=>absurd hp h)
theorem UL (hp:¬p) (h1:WT P Q n):WT P Q (.test (decide p == true) y n):=C0 (fun h=>absurd h hp) (fun _=>h1)
theorem UM (hp:¬p) (h1:WT P Q y):WT P Q (.test (decide p == false) y n):=C2 (fun _=>h1) (fun h=>absurd h hp)
theorem UN (hp:p) (h1:WT P Q n):WT P Q (.test (decide p == false) y n):=C2 (fun h=>absurd hp h) (fun _=>h1)
theorem RV (hp:¬p) (h1:WT P Q y):WT P Q (.test ((!decide p) == true) y n):=yQ (fun _=>h1) (fun h=>absurd h hp)
theorem RX (hp:p) (h1:WT P Q n):WT P Q (.test ((!decide p) == true) y n):=yQ (fun h=>absurd hp h) (fun _=>h1)
theorem RY (hp:p) (h1:WT P Q y):WT P Q (.test ((!decide p) == false) y n):=yR (fun _=>h1) (fun h=>absurd hp h)
theorem RZ (hp:¬p) (h1:WT P Q n):WT P Q (.test ((!decide p) == false) y n):=yR (fun h=>absurd h hp) (fun _=>h1)
theorem R1 (hb:b=true) (h1:WT P Q y):WT P Q (.test (b == true) y n):=LG (fun _=>h1) (fun h=>(by rw [hb] at h;cases h))
theorem R2 (hb:b=false) (h1:WT P Q n):WT P Q (.test (b == true) y n):=LG (fun h=>(by rw [hb] at h;cases h)) (fun _=>h1)
theorem R7 (hb:b=false) (h1:WT P Q y):WT P Q (.test (b == false) y n):=LH (fun _=>h1) (fun h=>(by rw [hb] at h;cases h))
theorem R9 (hb:b=true) (h1:WT P Q n):WT P Q (.test (b == false) y n):=LH (fun h=>(by rw [hb] at h;cases h)) (fun _=>h1)
theorem Si (hb:b=false) (h1:WT P Q y):WT P Q (.test (!b) y n):=LI (fun _=>h1) (fun h=>(by rw [hb] at h;cases h))
theorem Sj (hb:b=true) (h1:WT P Q n):WT P Q (.test (!b) y n):=LI (fun h=>(by rw [hb] at h;cases h)) (fun _=>h1)
theorem Bz (hp:p/\q) (h1:WT P Q y):WT P Q (.test (decide p&&decide q) y n):=⟨fun _=>h1,fun h=>(by simp [hp.1,hp.2] at h)⟩
theorem Sl {x:Int} (hp : -9223372036854775808<=x/\x<9223372036854775808) (h1:WT P Q y):WT P Q (.test (inR .i64 x) y n):=⟨fun _=>h1,fun h=>(by simp [inR,hp.1,hp.2] at h)⟩
theorem IA {α β:Type} {g:α->β} {l:List α} {k:Nat} (h1:k<l.length->WT P Q y) (h2:¬k<l.length->WT P Q n):WT P Q (.test (decide ((k:Int)<((l.map g).length:Nat))) y n):=Hn (fun h=>h1 (by simpa using h)) (fun h=>h2 (by simpa using h))
theorem Sm {α β:Type} {g:α->β} {l:List α} {k:Nat} (hk:k<l.length) (h1:WT P Q y):WT P Q (.test (decide ((0:Int)<=(k:Int))&&decide ((k:Int)<((l.map g).length:Nat))) y n):=Bz ⟨by omega,by simpa using hk⟩ h1
theorem Sr {α:Type} {l:List α} {k:Nat} (hk:k<l.length) (h1:WT P Q y):WT P Q (.test (decide ((0:Int)<=(k:Int))&&decide ((k:Int)<(l.length:Nat))) y n):=Bz ⟨by omega,by simpa using hk⟩ h1
theorem Hq {α:Type} {g:α->List Dat} {l:List α} {k:Nat} {t:List Dat->Tree} (hk:k<l.length) (h1:WT P Q (t (g l[k]))):WT P Q (.elem (l.map g) (k:Int).toNat t):=dW _ (by simp [hk]) h1
theorem Hr {s:List UInt8} {k:Nat} {t:UInt8->Tree} (hk:k<s.length) (h1:WT P Q (t s[k])):WT P Q (.byte s (k:Int).toNat t):=CU _ (by simp [hk]) h1
theorem LJ {α β:Type} {g:α->β} {l:List α} {k:Nat} (h1:k+1<l.length->WT P Q y) (h2:¬k+1<l.length->WT P Q n):WT P Q (.test (decide ((k:Int)+1<((l.map g).length:Nat))) y n):=Hn (fun h=>h1 (by simp at h;omega)) (fun h=>h2 (by simp at h;omega))
theorem Ss {α:Type} {l:List α} {k:Nat} (hk:k+1<l.length) (h1:WT P Q y):WT P Q (.test (decide ((0:Int)<=(k:Int)+1)&&decide ((k:Int)+1<(l.length:Nat))) y n):=Bz ⟨by omega,by omega⟩ h1
theorem OC {α β:Type} {g:α->β} {l:List α} {k:Nat} (hk:k+1<l.length) (h1:WT P Q y):WT P Q (.test (decide ((0:Int)<=(k:Int)+1)&&decide ((k:Int)+1<((l.map g).length:Nat))) y n):=Bz ⟨by omega,by simp;omega⟩ h1
theorem OD {α:Type} {g:α->List Dat} {l:List α} {k:Nat} {t:List Dat->Tree} (hk:k+1<l.length) (h1:WT P Q (t (g l[k+1]))):WT P Q (.elem (l.map g) ((k:Int)+1).toNat t):=Hq (k:=k+1) hk h1
theorem OE {s:List UInt8} {k:Nat} {t:UInt8->Tree} (hk:k+1<s.length) (h1:WT P Q (t s[k+1])):WT P Q (.byte s ((k:Int)+1).toNat t):=Hr (k:=k+1) hk h1
theorem OG {s:List UInt8} {t:UInt8->Tree} (hk:0<s.length) (h1:WT P Q (t s[0])):WT P Q (.byte s (0:Int).toNat t):=Hr (k:=0) hk h1
theorem OH {α:Type} {g:α->List Dat} {l:List α} {t:List Dat->Tree} (hk:0<l.length) (h1:WT P Q (t (g l[0]))):WT P Q (.elem (l.map g) (0:Int).toNat t):=Hq (k:=0) hk h1
theorem Sv {α:Type} {l:List α} (hk:0<l.length) (h1:WT P Q y):WT P Q (.test (decide ((0:Int)<=0)&&decide ((0:Int)<(l.length:Nat))) y n):=Bz ⟨by omega,by omega⟩ h1
theorem OI {α β:Type} {g:α->β} {l:List α} (hk:0<l.length) (h1:WT P Q y):WT P Q (.test (decide ((0:Int)<=0)&&decide ((0:Int)<((l.map g).length:Nat))) y n):=Bz ⟨by omega,by simp;omega⟩ h1
theorem OJ {s:List UInt8} {k:Nat} {t:UInt8->Tree} (hk:k<s.length) (h1:WT P Q (t s[k])):WT P Q (.byte s k t):=CU _ (by simp [hk]) h1
end
end Uw
namespace Uw
open Go Go.RowKit
variable [Glob]
def br:Nat->List Blk->Heap
 | _,[]=>[]
 | i,b::r=>(i,b)::br (i+1) r
def nameOf:List Nat->Nat->Nat->Nat
 | [],nx,i=>nx+i
 | a::r,nx,i=>match i with
  | 0=>a
  | i+1=>nameOf r nx i
def tO (ρ:Nat->Nat):Heap->Heap
 | []=>[]
 | (i,b)::r=>(ρ i,b.ren ρ)::tO ρ r
def Res.ren (ρ:Nat->Nat):Res->Res
 | .val v=>.val (v.ren ρ)
 | .pan d=>.pan d
theorem kN:∀(bs:List Blk) (j i:Nat),look (br j bs) i=if j<=i then bs[i - j]? else none
 | [],j,i=>by simp [br,look]
 | b::r,j,i=>by
  rw [br,ai];by_cases h:j=i
  ·subst h;simp
  ·rw [if_neg h,kN r (j+1) i]
   by_cases h2:j<=i
   ·rw [if_pos (by omega),if_pos h2,show i - j=(i - (j+1))+1 by omega,List.getElem?_cons_succ]
   ·rw [if_neg (by omega),if_neg h2]
theorem wS (bs:List Blk) (i:Nat) (h:i<bs.length):∃b,look (br 0 bs) i=some b:=⟨bs[i],by rw [kN];simp [h]⟩
theorem JB (bs:List Blk) (i:Nat) {b:Blk} (h:look (br 0 bs) i=some b):i<bs.length:=by
 rw [kN] at h;simp at h;exact (List.getElem?_eq_some_iff.1 h).1
theorem uP:∀{ids:List Nat} {nx i:Nat},i<ids.length->nameOf ids nx i∈ids
 | [],_,_,h=>by simp at h
 | a::r,nx,0,_=>by simp [nameOf]
 | a::r,nx,i+1,h=>by
  rw [nameOf];exact List.mem_cons_of_mem _ (uP (by simpa using h))
theorem l8:∀{ids:List Nat} {nx i:Nat},ids.length<=i->nameOf ids nx i=nx+(i - ids.length)
 | [],_,_,_=>rfl
 | a::r,nx,0,h=>by simp at h
 | a::r,nx,i+1,h=>by
  simp only [List.length_cons] at h;rw [nameOf,l8 (by omega),List.length_cons];omega
theorem yS:∀{ids:List Nat} {nx i:Nat} (h:i<ids.length),nameOf ids nx i=ids[i]
 | [],_,_,h=>by simp at h
 | a::r,nx,0,_=>rfl
 | a::r,nx,i+1,h=>by
  rw [nameOf,yS (by simpa using h)];rfl
def tP:List Nat->Bool
 | []=>true
 | a::r=>(r.all fun b=>!(Nat.beq a b))&&tP r
theorem BA:∀{l:List Nat},tP l=true->l.Nodup
 | [],_=>List.nodup_nil
 | a::r,h=>by
  rw [tP,Bool.and_eq_true] at h;refine List.nodup_cons.2 ⟨fun hm=>?_,BA h.2⟩;have:=List.all_eq_true.1 h.1 a hm;simp at this
theorem LK {ids:List Nat} {nx:Nat} (hl:∀a∈ids,a<nx) (hn:ids.Nodup) {i j:Nat} (h:nameOf ids nx i=nameOf ids nx j):i=j:=by
 rcases Nat.lt_or_ge i ids.length with h1|h1<;>rcases Nat.lt_or_ge j ids.length with h2|h2
 ·rw [yS h1,yS h2] at h
  rcases Nat.lt_trichotomy i j with hlt|he|hlt
  ·exact absurd h (List.pairwise_iff_getElem.1 hn i j h1 h2 hlt)
  ·exact he
  ·exact absurd h.symm (List.pairwise_iff_getElem.1 hn j i h2 h1 hlt)
 ·have:=hl _ (uP (nx:=nx) h1);rw [l8 h2] at h;omega
 ·have:=hl _ (uP (nx:=nx) h2);rw [l8 h1] at h;omega
 ·rw [l8 h1,l8 h2] at h;omega
theorem kO:∀(a b:Heap) (j:Nat),look (a++b) j=match look a j with|some x=>some x|none=>look b j
 | [],b,j=>rfl
 | (i,x)::a,b,j=>by
  rw [List.cons_append,ai,ai];by_cases h:i=j
  ·rw [if_pos h,if_pos h]
  ·rw [if_neg h,if_neg h];exact kO a b j
theorem vU {ρ:Nat->Nat} (hi:∀i j,ρ i=ρ j->i=j):∀(h:Heap) (i:Nat),look (tO ρ h) (ρ i)=(look h i).map (Blk.ren ρ)
 | [],i=>rfl
 | (k,b)::r,i=>by
  rw [tO,ai,ai];by_cases h:k=i
  ·subst h;simp
  ·rw [if_neg h,if_neg (fun e=>h (hi _ _ e))];exact vU hi r i
theorem jM {ρ:Nat->Nat} {j:Nat} (hj:∀i,ρ i≠j):∀(h:Heap),look (tO ρ h) j=none
 | []=>rfl
 | (k,b)::r=>by rw [tO,ai,if_neg (hj k)];exact jM hj r
def Shp:Blk->Blk->Prop
 | .var _,.var _=>True
 | .arr k xs,.arr k' xs'=>k=k'/\xs=xs'
 | .mt k v xs,.mt k' v' xs'=>k=k'/\v=v'/\xs=xs'
 | .iter _ _,.iter _ _=>True
 | .map _ _,.map _ _=>True
 | _,_=>False
theorem Shp.ren (ρ:Nat->Nat) (b:Blk):Shp b (b.ren ρ):=by cases b<;>simp [Shp,Blk.ren]
section
variable {c c' : Cx} {ρ : Nat -> Nat} (hk : Keeps c.w c'.w (Imm c) (Imm c')) (hl : ∀ id b, look c.heap id = some b -> ∃ b', look c'.heap (ρ id) = some b' /\ Shp b b' /\ c'.pl (ρ id) = c.pl id)
include hk hl
mutual
theorem aA.push:∀(x:V) (v:Value),aA c x v->aA c' (x.ren ρ) v
 | .d x,v,r=>aE.keep hk x v r
 | .ptr id off,v,r=>by
  obtain ⟨⟨cs,h1⟩,h2⟩:=r;obtain ⟨b',e1,e2,e3⟩:=hl id _ h1
  cases b' with
  | var cs'=>exact ⟨⟨cs',e1⟩,by rw [e3];exact h2⟩
  | _=>exact e2.elim
 | .ro cs off,v,r=>by
  obtain ⟨b,o,h1,h2⟩:=r;exact ⟨b,o,h1,dO.keep hk _ _ _ h2⟩
 | .mG id ver i cc,v,r=>by
  simp only [aA,V.ren] at r ⊢
  cases hb:look c.heap id with
  | none=>rw [hb] at r;exact r.elim
  | some b=>
   obtain ⟨b',e1,e2,e3⟩:=hl id b hb;rw [hb] at r;rw [e1]
   cases b with
   | mt k v0 xs=>
    cases b' with
    | mt k' v' xs'=>
     obtain ⟨rfl,rfl,rfl⟩:=e2;unfold jG at *;rw [e3];exact r
    | _=>exact e2.elim
   | _=>exact r.elim
 | .ref id ver off len,v,r=>by
  simp only [aA,V.ren] at r ⊢
  cases hb:look c.heap id with
  | none=>rw [hb] at r;exact r.elim
  | some b=>
   obtain ⟨b',e1,e2,e3⟩:=hl id b hb;rw [hb] at r;rw [e1]
   cases b with
   | mt k v0 xs=>
    cases b' with
    | mt k' v' xs'=>
     obtain ⟨rfl,rfl,rfl⟩:=e2;unfold ki at *;rw [e3];exact r
    | _=>exact e2.elim
   | arr k xs=>
    cases b' with
    | arr k' xs'=>
     obtain ⟨rfl,rfl⟩:=e2;unfold ki at *;rw [e3];obtain ⟨r1,r2⟩:=r;refine ⟨r1,?_⟩
     rcases r2 with r2|⟨b,o,cap,r2,r3,r4,r5⟩
     ·exact .inl r2
     ·exact .inr ⟨b,o,cap,r2,r3,cB.keep hk _ _ _ _ r4,r5⟩
    | _=>exact e2.elim
   | _=>exact r.elim
 | .agg cs,v,r=>by
  obtain ⟨vs,h1,h2⟩:=r;exact ⟨vs,h1,ax.push cs vs h2⟩
 | .func f fs cap,v,r=>by
  obtain ⟨us,vs,h1,h2,h3⟩:=r;exact ⟨us,vs,h1,ax.push fs us h2,ax.push cap vs h3⟩
 | .tuple ds,v,r=>by
  obtain ⟨vs,h1,h2⟩:=r;exact ⟨vs,h1,ax.push ds vs h2⟩
 | .hnd id,v,r=>by
  simp only [aA,V.ren] at r ⊢
  cases hb:look c.heap id with
  | none=>rw [hb] at r;exact r.elim
  | some b=>
   obtain ⟨b',e1,e2,e3⟩:=hl id b hb;rw [hb] at r;rw [e1]
   cases b with
   | iter s p=>
    cases b' with
    | iter s' p'=>unfold fq at *;rw [e3];exact r
    | _=>exact e2.elim
   | map kk es=>
    cases b' with
    | map kk' es'=>unfold fq at *;rw [e3];exact r
    | _=>exact e2.elim
   | _=>exact r.elim
 | .row id len,v,r=>by
  obtain ⟨⟨cs,h1⟩,h2,h3⟩:=r;obtain ⟨b',e1,e2,e3⟩:=hl id _ h1
  cases b' with
  | var cs'=>exact ⟨⟨cs',e1⟩,by rw [e3];exact h2,h3⟩
  | _=>exact e2.elim
 | .undef,v,r=>trivial
theorem ax.push:∀(xs:List V) (vs:List Value),ax c xs vs->ax c' (fC ρ xs) vs
 | [],vs,r=>r
 | d::ds,vs,r=>by
  obtain ⟨v,vs',h1,h2,h3⟩:=r;exact ⟨v,vs',h1,aA.push d v h2,ax.push ds vs' h3⟩
end
theorem cJ.push (hw:c'.w=c.w) {id:Nat} {b:Blk} (hp:c'.pl (ρ id)=c.pl id) (r:cJ c id b):cJ c' (ρ id) (b.ren ρ):=by
 cases b with
 | var cs=>obtain ⟨vs,e,h1,h2⟩:=r;exact ⟨vs,e,by rw [hp,hw];exact h1,ax.push hk hl _ _ h2⟩
 | arr k xs=>
  obtain ⟨h0,r⟩:=r;refine ⟨by rw [hp];exact h0,fun hc=>?_⟩;rw [hp] at hc ⊢;obtain ⟨vs,e,h1,h2,h4⟩:=r hc;exact ⟨vs,e,by rw [hw];exact h1,h2,cB.keep hk _ _ _ _ h4⟩
 | mt k v xs=>
  obtain ⟨h0,h4,r⟩:=r;refine ⟨by rw [hp];exact h0,h4,fun hc=>?_⟩;rw [hp] at hc ⊢;obtain ⟨vs,e,h1,h2,h5,h6⟩:=r hc;exact ⟨vs,e,by rw [hw];exact h1,h2,aX.keep hk _ _ h5,h6⟩
 | iter s p=>simp only [Blk.ren,cJ] at r ⊢;rw [hp,hw];exact r
 | map kk es=>obtain ⟨ms,k,h1,h2⟩:=r;exact ⟨ms,k,by rw [hp,hw];exact h1,oV.keep hk _ _ h2⟩
end
theorem pK.trans {K:Nat} {a b c:Cx} (h1:pK K a b) (h2:pK K b c):pK K a c:=by
 refine ⟨fun x o hx=>?_,fun id x hid hx=>?_⟩
 ·obtain ⟨e1,e2⟩:=h1.keeps x o hx
  obtain ⟨e3,e4⟩:=h2.keeps x o e1;exact ⟨e3,e4.trans e2⟩
 ·obtain ⟨y,e1,e2⟩:=h1.blks id x hid hx
  obtain ⟨z,e3,e4⟩:=h2.blks id y hid e1;refine ⟨z,e3,?_⟩
  cases x<;>cases y<;>simp only [c6] at e2<;>cases z<;>simp only [c6] at e4 ⊢
  ·exact e2.trans e4
  ·obtain ⟨rfl,⟨ys,rfl⟩,p1⟩:=e2
   obtain ⟨rfl,⟨zs,rfl⟩,p2⟩:=e4;refine ⟨rfl,⟨ys++zs,by simp⟩,fun he=>?_⟩;have hlen:=congrArg List.length he;simp only [List.length_append] at hlen;obtain ⟨rfl,rfl⟩:ys=[]/\zs=[]:=⟨List.eq_nil_of_length_eq_zero (by omega),List.eq_nil_of_length_eq_zero (by omega)⟩
   rw [p2 (by simp),p1 (by simp)]
  ·obtain ⟨rfl,v1,p1⟩:=e2
   obtain ⟨rfl,v2,p2⟩:=e4;refine ⟨rfl,Nat.le_trans v1 v2,fun he=>?_⟩;obtain ⟨q1,q2⟩:=p1 (by omega);obtain ⟨q3,q4⟩:=p2 (by omega);exact ⟨q3.trans q1,q4.trans q2⟩
  ·exact e2.trans e4
  ·exact ⟨e2.1.trans e4.1,e2.2.trans e4.2⟩
theorem c6.refl (p:Pl) (b:Blk):c6 p p b b:=by cases b<;>simp [c6]
theorem pK.refl (K:Nat) (c:Cx):pK K c c:=⟨fun _ _ h=>⟨h,rfl⟩,fun _ b _ h=>⟨b,h,c6.refl _ _⟩⟩
theorem Ph.ren {p:Pl} {b:Blk} {ρ:Nat->Nat}:Ph p (b.ren ρ)<->Ph p b:=by cases b<;>simp [Ph,Blk.ren]
theorem l5.frame {P:Program} {f:FuncId} {vs0:List V} {bs:List Blk} {R0:Res->Heap->Nat->Prop} (hs:l5 P f vs0 (br 0 bs) bs.length R0) (ids:List Nat) {H:Heap} {nx:Nat}
  (hm:ids.length<=bs.length) (AB:∀a∈ids,a<nx) (hnd:ids.Nodup)
  (hfit:∀i b',look (br 0 bs) i=some b'->(∃b,look H (nameOf ids nx i)=some b/\nD (nameOf ids nx) H (br 0 bs) b b')\/(look H (nameOf ids nx i)=none/\ju b'))
  {vs:List V} (hvs:VWL (nameOf ids nx) H (br 0 bs) vs vs0) :
  l5 P f vs H nx (fun r h n=>∃r0 h0 n0,R0 r0 h0 n0/\r=r0.ren (nameOf ids nx)/\h=tO (nameOf ids nx) h0++H/\n=nx+(n0 - ids.length)):=by
 refine ⟨hs.1,?_⟩;rintro c w0 F gvs rfl hH hFK hFp hv;have hinj:∀i j,nameOf ids nx i=nameOf ids nx j->i=j:=fun i j h=>LK AB hnd h;generalize hρ:nameOf ids nx=ρ at *
 -- the part's context
 let J:JX:=⟨Imm c,fun b=>c.Old b\/(b<c.w.heap.size/\∀i blk,look (br 0 bs) i=some blk->Ph (c.pl (ρ i)) blk->(look c.heap (ρ i)).isSome=true->(c.pl (ρ i)).gb≠b)⟩
 let c1:Cx:=c.iG ρ (br 0 bs) J
 have hz:∀i b',look c.heap (ρ i)=none->ju b'->¬Ph (c1.pl i) b':=by
  intro i b' hn hz hp;have:c1.pl i=⟨0,0⟩:=by simp [c1,Cx.iG,hn]
  rw [this] at hp
  cases b'<;>simp [ju,Ph] at hz hp
 have hpl:∀i b,look c.heap (ρ i)=some b->c1.pl i=c.pl (ρ i):=fun i b h=>by simp [c1,Cx.iG,h]
 have OL:∀b,c.Old b->c1.Old b:=fun b h=>.inr (.inl h);have VJ:∀i b',look (br 0 bs) i=some b'->Ph (c1.pl i) b'->¬c1.Old (c1.pl i).gb:=by
  intro i b' hl hph
  rcases hfit i b' hl with ⟨b,hb,dV⟩|⟨hn,hzz⟩
  ·rw [hpl i b hb] at hph ⊢
   have hg:=hH.ge (ρ i) b hb (dV.ph hph);rintro (h|h|⟨_,h⟩)
   ·exact hg (.inl h)
   ·exact hg h
   ·exact h i b' hl hph (by rw [hb];rfl) rfl
  ·exact (hz i b' hn hzz hph).elim
 have UO:∀b o,Imm c b o->Imm c1 b o:=by
  intro b o hi;by_cases ho:c1.Old b
  ·exact .inl ⟨ho,hi⟩
  ·refine .inr ⟨ho,hH.Cc hi,fun i blk hl hph hg=>?_⟩
   rcases hi with ⟨h1,_⟩|⟨h1,h2,h3⟩
   ·exact (ho (OL b h1)).elim
   ·rcases hfit i blk hl with ⟨b0,hb,dV⟩|⟨hn,hzz⟩
    ·have kK : Ph (c1.pl i) blk:=hph
     have hg' : (c1.pl i).gb=b:=hg;rw [hpl i b0 hb] at kK hg';obtain ⟨k,xs,e,hlt⟩:=h3 (ρ i) b0 hb (dV.ph kK) hg';subst e
     cases blk with
     | arr k' xs'=>obtain ⟨rfl,rfl⟩:=dV;exact ⟨k,xs,rfl,hlt⟩
     | _=>exact dV.elim
    ·exact (hz i blk hn hzz hph).elim
 have hk1:Keeps c.w c.w (Imm c) (Imm c1):=fun b o h=>⟨UO b o h,rfl⟩
 have hH1:cZ c1 c.w bs.length:=by
  refine ⟨Below.refl _ _,?_,⟨hH.yr,hH.kJ.2.1,hH.glob.2.2⟩,?_,fun i b h=>JB bs i h,VJ,?_⟩
  ·rintro b (h|⟨h,_⟩)
   ·exact ⟨hH.B9 h,rfl⟩
   ·exact ⟨h,rfl⟩
  ·intro i b' hl
   rcases hfit i b' hl with ⟨b,hb,dV⟩|⟨hn,hzz⟩
   ·exact cJ.weak hfit hk1 hb dV (hH.blk (ρ i) b hb)
   ·have hp:c1.pl i=⟨0,0⟩:=by simp [c1,Cx.iG,hn]
    cases b' with
    | arr k xs=>simp [ju] at hzz;subst hzz;exact ⟨by simp,fun hc=>by rw [hp] at hc;simp at hc⟩
    | mt k v xs=>simp [ju] at hzz;obtain ⟨rfl,rfl⟩:=hzz;exact ⟨by simp,by simp,fun hc=>by rw [hp] at hc;simp at hc⟩
    | _=>exact hzz.elim
  ·intro i i' b1 b2 h1 h2 p1 p2 hg
   rcases hfit i b1 h1 with ⟨x1,hb1,s1⟩|⟨hn,hzz⟩
   ·rcases hfit i' b2 h2 with ⟨x2,hb2,s2⟩|⟨hn,hzz⟩
    ·rw [hpl i x1 hb1] at p1 hg
     rw [hpl i' x2 hb2] at p2 hg;exact hinj _ _ (hH.inj (ρ i) (ρ i') x1 x2 hb1 hb2 (s1.ph p1) (s2.ph p2) hg)
    ·exact (hz i' b2 hn hzz p2).elim
   ·exact (hz i b1 hn hzz p1).elim
 let F1:Fr:=⟨bs.length,fun c2=>pK bs.length c1 c2,fun a b h1 h2=>h2.trans h1⟩
 refine (hs.2 c1 c.w F1 gvs rfl hH1 (Nat.le_refl _) (pK.refl _ _) (ax.vw hfit hk1 hvs hv)).mono ?_;rintro e w' ⟨c2,r0,n0,eB,eJ,rfl,hH2,hn0,hev,hend,hR⟩
 -- behind the call
 have JC:∀b,c2.Old b<->c1.Old b:=fun b=>by unfold Cx.Old;rw [eB,eJ]
 have hJ2:∀b o,c2.J0.J b o<->Imm c b o:=fun b o=>by rw [eJ];exact Iff.rfl
 have hout:∀b,c1.Old b->c2.w.heap[b]? = c.w.heap[b]?:=by
  intro b hb
  rcases hb with hb|hb
  ·have hb' : b<c2.B:=by rw [eB];exact hb
   exact hH2.below.block b hb'
  ·exact (hH2.other b (by rw [eJ];exact hb)).2
 classical
 let pl' : Nat->Pl:=fun j=>if h:∃i,ρ i=j then c2.pl h.choose else c.pl j
 have tQ:∀i,pl' (ρ i)=c2.pl i:=by
  intro i;have h:∃i',ρ i' = ρ i:=⟨i,rfl⟩
  simp only [pl',dif_pos h];rw [hinj _ _ h.choose_spec]
 have hpl2:∀j,(∀i,ρ i≠j)->pl' j=c.pl j:=fun j h=>by simp only [pl',dif_neg (fun ⟨i,e⟩=>h i e:¬∃i,ρ i=j)]
 let c' : Cx:={ B:=c.B,J0:=c.J0,heap:=tO ρ c2.heap++c.heap,pl:=pl',w:=c2.w }
 have there:∀i,i<ids.length->∃b,look c2.heap i=some b:=by
  intro i hi;obtain ⟨b,hb⟩:=wS bs i (by omega);obtain ⟨b',hb',_⟩:=hev.blks i b (by omega) hb;exact ⟨b',hb'⟩
 -- the blocks behind the call: the part's,and those beside it
 have look1:∀i b,look c2.heap i=some b->look c'.heap (ρ i)=some (b.ren ρ):=by
  intro i b h;show look (tO ρ c2.heap++c.heap) (ρ i)=_;rw [kO,vU hinj,h];rfl
 have UP:∀j b,look c.heap j=some b->(∀i,ρ i≠j)->look c'.heap j=some b:=by
  intro j b h hj;show look (tO ρ c2.heap++c.heap) j=_;rw [kO,jM hj];exact h
 have split:∀j b,look c'.heap j=some b->(∃i b0,j=ρ i/\look c2.heap i=some b0/\b=b0.ren ρ)\/(look c.heap j=some b/\∀i,ρ i≠j):=by
  intro j b h;have h:look (tO ρ c2.heap++c.heap) j=some b:=h;rw [kO] at h;by_cases hj:∃i,ρ i=j
  ·obtain ⟨i,rfl⟩:=hj
   rw [vU hinj] at h
   cases hi:look c2.heap i with
   | some b0=>
    rw [hi] at h;simp only [Option.map_some,Option.some.injEq] at h;exact .inl ⟨i,b0,rfl,hi,h.symm⟩
   | none=>
    rw [hi] at h;simp only [Option.map_none] at h;exfalso;have hlt:=hH.lt _ _ h
    rcases Nat.lt_or_ge i ids.length with h1|h1
    ·obtain ⟨b0,hb0⟩:=there i h1
     rw [hi] at hb0;cases hb0
    ·rw [<- hρ,l8 h1] at hlt;omega
  ·have hj' : ∀i,ρ i≠j:=fun i e=>hj ⟨i,e⟩
   rw [jM hj'] at h;exact .inr ⟨h,hj'⟩
 -- a block beside the part is old to it
 have beside:∀j b,look c.heap j=some b->(∀i,ρ i≠j)->Ph (c.pl j) b->c1.Old (c.pl j).gb:=by
  intro j b h hj hph;refine .inr (.inr ⟨hH.jI h hph,fun i blk hl hp hs hg=>?_⟩)
  rcases hfit i blk hl with ⟨b0,hb,dV⟩|⟨hn,hzz⟩
  ·exact hj i (hH.inj (ρ i) j b0 b hb h (dV.ph hp) hph hg)
  ·rw [hn] at hs;cases hs
 have UQ:∀b o,Imm c2 b o->Imm c' b o:=by
  intro b o hi
  rcases hi with ⟨h1,h2⟩|⟨h1,h2,h3⟩
  ·rw [JC] at h1
   rw [hJ2] at h2;by_cases ho:c.Old b
   ·rcases h2 with h2|h2
    ·exact .inl h2
    ·exact (h2.1 ho).elim
   ·rcases h2 with h2|⟨g1,g2,g3⟩
    ·exact (ho h2.1).elim
    ·refine .inr ⟨ho,Nat.lt_of_lt_of_le g2 hH2.below.size,fun j blk hl hph hg=>?_⟩
     rcases split j blk hl with ⟨i,b0,rfl,hl0,rfl⟩|⟨hl0,hj⟩
     ·exfalso
      have kK : Ph (pl' (ρ i)) (b0.ren ρ):=hph;have hg' : (pl' (ρ i)).gb=b:=hg;rw [tQ,Ph.ren] at kK;rw [tQ] at hg';exact hH2.ge i b0 hl0 kK (by rw [hg',JC];exact h1)
     ·have kK : Ph (pl' j) blk:=hph
      have hg' : (pl' j).gb=b:=hg;rw [hpl2 j hj] at kK hg';exact g3 j blk hl0 kK hg'
  ·have h1' : ¬c1.Old b:=fun h=>h1 ((JC b).2 h)
   refine .inr ⟨fun h=>h1' (OL b h),h2,fun j blk hl hph hg=>?_⟩;have kK : Ph (pl' j) blk:=hph;have hg' : (pl' j).gb=b:=hg
   rcases split j blk hl with ⟨i,b0,rfl,hl0,rfl⟩|⟨hl0,hj⟩
   ·rw [tQ,Ph.ren] at kK
    rw [tQ] at hg';obtain ⟨k,xs,rfl,hlt⟩:=h3 i b0 hl0 kK hg';exact ⟨k,xs,rfl,hlt⟩
   ·rw [hpl2 j hj] at kK hg'
    exact (h1' (hg' ▸ beside j blk hl0 hj kK)).elim
 have hk2:Keeps c2.w c'.w (Imm c2) (Imm c'):=fun b o h=>⟨UQ b o h,rfl⟩
 have hlk:∀i b,look c2.heap i=some b->∃b',look c'.heap (ρ i)=some b'/\Shp b b'/\c'.pl (ρ i)=c2.pl i:=fun i b h=>⟨_,look1 i b h,Shp.ren ρ b,tQ i⟩
 have evo:Evo c c':=by
  refine ⟨fun b o hi=>?_,fun j b hb=>?_⟩
  ·obtain ⟨q1,q2⟩:=hev.keeps b o (UO b o hi)
   exact ⟨UQ b o q1,q2⟩
  ·by_cases hj:∃i,ρ i=j
   ·obtain ⟨i,rfl⟩:=hj
    have hlt:=hH.lt _ _ hb;have hi:i<ids.length:=by
     rcases Nat.lt_or_ge i ids.length with h1|h1
     ·exact h1
     ·rw [<- hρ,l8 h1] at hlt;omega
    obtain ⟨b0,hb0⟩:=wS bs i (by omega);obtain ⟨b1,hb1,he⟩:=hev.blks i b0 (by omega) hb0;refine ⟨b1.ren ρ,look1 i b1 hb1,?_⟩;show c6 (c.pl (ρ i)) (pl' (ρ i)) b (b1.ren ρ);rw [tQ]
    rcases hfit i b0 hb0 with ⟨x,hx,dV⟩|⟨hn,_⟩
    ·rw [hb] at hx;injection hx with hx;subst hx
     rw [hpl i b hb] at he
     cases b<;>cases b0<;>simp only [nD] at dV<;>cases b1<;>simp only [c6,Blk.ren] at he ⊢
     ·exact he
     ·obtain ⟨rfl,rfl⟩:=dV;exact he
     ·obtain ⟨rfl,rfl,rfl⟩:=dV;exact he
     ·exact he
     ·obtain ⟨rfl,rfl⟩:=dV;exact he
    ·rw [hb] at hn;cases hn
   ·have hj' : ∀i,ρ i≠j:=fun i e=>hj ⟨i,e⟩
    refine ⟨b,UP j b hb hj',?_⟩;show c6 (c.pl j) (pl' j) b b;rw [hpl2 j hj'];exact c6.refl _ _
 have hH' : cZ c' w0 (nx+(n0 - ids.length)):=by
  refine ⟨?_,?_,hH.kJ,?_,?_,?_,?_⟩
  ·have:=hH2.below
   rw [eB] at this;exact hH.below.trans this
  ·intro b hb
   exact ⟨(hH.other b hb).1,(hout b (OL b (.inr hb))).trans (hH.other b hb).2⟩
  ·intro j b hl
   rcases split j b hl with ⟨i,b0,rfl,hl0,rfl⟩|⟨hl0,hj⟩
   ·exact cJ.push hk2 hlk rfl (tQ i) (hH2.blk i b0 hl0)
   ·exact cJ.evo evo (hpl2 j hj) (fun hph=>hout _ (beside j b hl0 hj hph)) (hH.blk j b hl0)
  ·intro j b hl
   rcases split j b hl with ⟨i,b0,rfl,hl0,rfl⟩|⟨hl0,hj⟩
   ·have:=hH2.lt i b0 hl0
    rcases Nat.lt_or_ge i ids.length with h1|h1
    ·have:=AB _ (uP (nx:=nx) h1)
     rw [hρ] at this;omega
    ·rw [<- hρ,l8 h1];omega
   ·have:=hH.lt j b hl0;omega
  ·intro j b hl hph
   have kK : Ph (pl' j) b:=hph;show ¬c'.Old (pl' j).gb
   rcases split j b hl with ⟨i,b0,rfl,hl0,rfl⟩|⟨hl0,hj⟩
   ·rw [tQ,Ph.ren] at kK
    rw [tQ];exact fun h=>hH2.ge i b0 hl0 kK ((JC _).2 (OL _ h))
   ·rw [hpl2 j hj] at kK ⊢
    exact hH.ge j b hl0 kK
  ·intro j j' b b' hl hl' hp hp' hg
   have hp:Ph (pl' j) b:=hp;have hp' : Ph (pl' j') b':=hp';have hg:(pl' j).gb=(pl' j').gb:=hg
   rcases split j b hl with ⟨i,b0,rfl,hl0,rfl⟩|⟨hl0,hj⟩
   ·rw [tQ,Ph.ren] at hp
    rw [tQ] at hg
    rcases split j' b' hl' with ⟨i',b0',rfl,hl0',rfl⟩|⟨hl0',hj'⟩
    ·rw [tQ,Ph.ren] at hp'
     rw [tQ] at hg;rw [hH2.inj i i' b0 b0' hl0 hl0' hp hp' hg]
    ·rw [hpl2 j' hj'] at hp' hg
     exact (hH2.ge i b0 hl0 hp (by rw [hg,JC];exact beside j' b' hl0' hj' hp')).elim
   ·rw [hpl2 j hj] at hp hg
    rcases split j' b' hl' with ⟨i',b0',rfl,hl0',rfl⟩|⟨hl0',hj'⟩
    ·rw [tQ,Ph.ren] at hp'
     rw [tQ] at hg;exact (hH2.ge i' b0' hl0' hp' (by rw [<- hg,JC];exact beside j b hl0 hj hp)).elim
    ·rw [hpl2 j' hj'] at hp' hg
     exact hH.inj j j' b b' hl0 hl0' hp hp' hg
 refine ⟨c',r0.ren ρ,nx+(n0 - ids.length),rfl,rfl,rfl,hH',by omega,F.ok c c' (evo.toK _) hFp,?_,r0,c2.heap,n0,hR,rfl,rfl,rfl⟩
 cases e with
 | returned gv=>
  cases r0 with
  | val v=>exact aA.push hk2 hlk v gv hend
  | pan d=>exact hend.elim
 | panicked ch=>
  cases r0 with
  | val v=>exact hend.elim
  | pan d=>obtain ⟨v,h1,h2⟩:=hend;exact ⟨v,h1,aE.keep hk2 _ _ h2⟩
 | outgrown=>cases r0<;>exact hend.elim
end Uw
namespace Uw
open Go
variable [Glob]
section
variable {P : Program} {Q : aH -> St -> Prop} {t t' y n : Tree} {p q : Prop}
theorem aw (hgo' : WT P Q t') (h:WT P Q t'->WT P Q t:=by
  first
  | (show _->WT _ _ (Tree.test _ _ _)
     first
     | exact Sl (by omega)
     | exact RP (by simp [inR];omega)
     | exact RL rfl
     | exact Ou rfl
     | exact OI (by first|assumption|omega)
     | exact Sv (by first|assumption|omega)
     | exact OC (by first|assumption|omega)
     | exact Ss (by first|assumption|omega)
     | exact Sm (by first|assumption|omega)
     | exact Sr (by first|assumption|omega)
     | exact LC (by first|(simp [inR];done)|(simp [inR];omega))
     | exact UK (by first|assumption|omega|exact rfl)
     | exact UL (by first|assumption|omega)
     | exact UM (by first|assumption|omega)
     | exact UN (by first|assumption|omega|exact rfl)
     | exact RV (by first|assumption|omega)
     | exact RX (by first|assumption|omega|exact rfl)
     | exact RY (by first|assumption|omega|exact rfl)
     | exact RZ (by first|assumption|omega)
     | exact R1 (by assumption)
     | exact R2 (by assumption)
     | exact R7 (by assumption)
     | exact R9 (by assumption)
     | exact RS (by first|assumption|omega|exact rfl)
     | exact UJ (by first|assumption|omega)
     | exact OB (by first|assumption|omega)
     | exact RU (by first|assumption|omega|exact rfl)
     | exact UI (by assumption)
     | exact Ou (by assumption)
     | exact Si (by assumption)
     | exact Sj (by assumption))
  | (show _->WT _ _ (Tree.call _ _ _)
     exact Ix _ (by assumption))
  | (show _->WT _ _ (Tree.elem _ _ _)
     first
     | exact dW _ (by assumption)
     | exact OH (by first|assumption|omega)
     | exact OD (by first|assumption|omega)
     | exact Hq (by first|assumption|omega)
     | exact dW _ (CY _ _ _ (by first|assumption|omega))
     | exact dW _ (by assumption))
  | (show _->WT _ _ (Tree.byte _ _ _)
     first
     | exact OG (by first|assumption|omega)
     | exact OE (by first|assumption|omega)
     | exact Hr (by first|assumption|omega)
     | exact OJ (by first|assumption|omega))
  | (show _->WT _ _ (Tree.same _ _ _)
     exact Ox rfl)):WT P Q t:=h hgo'
theorem bw (h1:p->WT P Q y) (h2:q->WT P Q n) (h:(p->WT P Q y)->(q->WT P Q n)->WT P Q t:=by
  show _->_->WT _ _ (Tree.test _ _ _)
  first
  | exact LJ
  | exact IA
  | exact C0
  | exact C2
  | exact yQ
  | exact yR
  | exact LG
  | exact LH
  | exact Hn
  | exact OA
  | exact LI
  | exact Ot):WT P Q t:=h h1 h2
end
theorem wW {st st' : St} (h:Weak st st':=by
  refine Weak.of ?_ ?_ rfl rfl ?_ rfl rfl<;>repeat' first|exact trivial|refine ⟨⟨_,rfl,?_⟩,?_⟩|exact cQ (by first|with_reducible rfl|assumption|omega)|exact yO (by first|with_reducible rfl|assumption|omega|(simp;done)|(simp;omega)) rfl rfl|exact Or.inl ⟨rfl,rfl⟩|exact LD (by assumption)|exact Or.inr (Or.inl ⟨rfl,by first|exact ⟨_,_,rfl,rfl,Or.inl rfl⟩|exact ⟨_,_,rfl,rfl,Or.inr rfl⟩⟩)|exact Or.inr (Or.inr (Or.inl rfl))|exact Or.inr (Or.inr (Or.inr (Or.inl ⟨_,_,_,_,_,_,_,rfl,rfl,by first|assumption|exact rfl,rfl⟩)))|exact Or.inr (Or.inr (Or.inr ⟨_,_,_,_,_,_,_,rfl,rfl,by first|assumption|exact rfl,rfl⟩))|refine Or.inr (Or.inr (Or.inr (Or.inr (Or.inl ⟨_,_,rfl,rfl,?_⟩))))|refine ⟨⟨Or.inl ⟨_,rfl,?_⟩,rfl⟩,?_⟩|refine ⟨⟨Or.inr ⟨rfl,rfl⟩,rfl⟩,?_⟩|refine ⟨⟨Or.inr ⟨rfl,rfl,rfl⟩,rfl⟩,?_⟩|exact ⟨rfl,rfl⟩|exact ⟨rfl,by assumption⟩|exact ⟨rfl,rfl,rfl⟩|exact dZ rfl rfl|refine ⟨⟨rfl,fun _=>rfl⟩,?_⟩|refine And.intro ?_ ?_|refine ⟨⟨rfl,fun _=>rfl⟩,?_⟩):Weak st st':=h
end Uw
namespace Uw
open Go
variable [Glob]
theorem wM {st st' : St} (h:Weak st st':=by
  refine Weak.of ?_ ?_ rfl rfl ?_ rfl rfl<;>repeat' first|exact trivial|refine ⟨⟨_,rfl,?_⟩,?_⟩|exact cQ (by first|with_reducible rfl|assumption|omega)|exact yO (by first|with_reducible rfl|assumption|omega|(simp;done)|(simp;omega)) rfl rfl|exact Or.inl ⟨rfl,rfl⟩|exact LD (by assumption)|exact Or.inr (Or.inl ⟨rfl,by first|exact ⟨_,_,rfl,rfl,Or.inl rfl⟩|exact ⟨_,_,rfl,rfl,Or.inr rfl⟩⟩)|exact Or.inr (Or.inr (Or.inl rfl))|exact Or.inr (Or.inr (Or.inr (Or.inl ⟨_,_,_,_,_,_,_,rfl,rfl,by first|assumption|exact rfl,rfl⟩)))|exact Or.inr (Or.inr (Or.inr ⟨_,_,_,_,_,_,_,rfl,rfl,by first|assumption|exact rfl,rfl⟩))|refine Or.inr (Or.inr (Or.inr (Or.inr (Or.inl ⟨_,_,rfl,rfl,?_⟩))))|refine ⟨⟨Or.inl ⟨_,rfl,?_⟩,rfl⟩,?_⟩|refine ⟨⟨Or.inr ⟨rfl,rfl⟩,rfl⟩,?_⟩|refine ⟨⟨Or.inr ⟨rfl,rfl,rfl⟩,rfl⟩,?_⟩|exact ⟨rfl,rfl,by assumption⟩|exact ⟨rfl,by assumption⟩|exact ⟨rfl,rfl⟩|exact ⟨rfl,rfl,rfl⟩|exact dZ rfl rfl|refine ⟨⟨rfl,fun _=>rfl⟩,?_⟩|refine And.intro ?_ ?_|refine ⟨⟨rfl,fun _=>rfl⟩,?_⟩):Weak st st':=h
end Uw
namespace Uw
open Go
variable [Glob]
section
variable {P : Program} {Q : aH -> St -> Prop}
def AE (n:Nat) (good:Nat->Prop) (j:Nat):Prop:=j<=n/\∀m,m<j->good m
def forM (n:Nat) (j:Nat):Nat:=n - j
theorem cb (n:Nat) (S:Nat->St) (good:Nat->Prop) {m:b9} {st:St} {k:aH->St->Tree} (hw:Weak st (S 0))
  (last:(∀j,j<n->good j)->WT P (mT S (AE n good) (forM n) n fun e s=>WT P Q (k e s)) (exec m (S n) Tree.done))
  (round:∀j,j<n->(∀i,i<j->good i)->WT P (mT S (AE n good) (forM n) j fun e s=>WT P Q (k e s)) (exec m (S j) Tree.done)):WT P Q (.code (.loop m) st k):=by
 refine dG S (AE n good) (forM n) 0 hw ⟨Nat.zero_le _,fun j h=>absurd h (Nat.not_lt_zero _)⟩ ?_;rintro j ⟨h1,h2⟩
 rcases Nat.lt_or_ge j n with h|h
 ·exact round j h h2
 ·obtain rfl:j=n:=Nat.le_antisymm h1 h
  exact last h2
theorem aJ {n:Nat} {S:Nat->St} {good:Nat->Prop} {s:St} (j:Nat) (hg:good j) (hw:Weak s (S (j+1))) (hj:j<n:=by assumption) (hp:∀i,i<j->good i:=by assumption) :
  WT P (mT S (AE n good) (forM n) j Q) (.done .normal s):=by
 refine cv (j+1) ⟨hj,fun i hi=>?_⟩ (by unfold forM;omega) hw
 rcases Nat.lt_or_ge i j with h|h
 ·exact hp i h
 ·rw [show i=j by omega];exact hg
theorem IB {o:Option Dat} {v:Dat} {k:Dat->Tree} {n:Tree} (h:o=some v) (h2:WT P Q (k v)):WT P Q (.test o.isSome (.val o k) n):=
 ⟨fun _=>⟨v,h,h2⟩,fun hf=>(by rw [h] at hf;cases hf)⟩
theorem E3 {o:Option Dat} {k:Dat->Tree} {n:Tree} (h:o=none) (h2:WT P Q n):WT P Q (.test o.isSome (.val o k) n):=
 ⟨fun hf=>(by rw [h] at hf;cases hf),fun _=>h2⟩
theorem m1 {t t' : Tree} (hgo' : WT P Q t') (h:WT P Q t'->WT P Q t:=by
  first
  | exact IB (by assumption)
  | exact E3 (by assumption)):WT P Q t:=h hgo'
end
end Uw
namespace Uw
open Go Go.RowKit
def jN (t:List Deferred) (a:Act):Act:={ a with defers:=a.defers++t }
def BB (t:List Deferred) (Q:Exit->Act->World->Prop) (e:Exit) (a:Act) (w:World):Prop:=∃a0,a=jN t a0/\Q e a0 w
section
variable {P : Program} {t : List Deferred} {Q : Exit -> Act -> World -> Prop} {ops : Array Oper}
theorem BD (a:Act):(jN t a).eval=a.eval:=funext fun x=>by cases x<;>rfl
theorem mW (a:Act) (d:Option Tmp) (v:Value):(jN t a).put d v=jN t (a.put d v):=by cases d<;>rfl
theorem C3 (h:LetsOut Q):LetsOut (BB t Q):=by obtain ⟨a,w,h⟩:=h;exact ⟨_,w,a,rfl,h⟩
theorem IC {o:Oper} {a:Act} {w:World} {K K' : Act->World->Prop} (hK:∀a w,K a w->K' (jN t a) w) (h:o.wp P a w K Q):o.wp P (jN t a) w K' (BB t Q):=by
 unfold Oper.wp at *;rw [BD];generalize (execOp a.eval o).run P w=r at *
 cases r with
 | ok nx w'=>
  cases nx with
  | value v=>show K' _ _;rw [mW];exact hK _ _ h
  | skip=>show K' _ _;rw [mW];exact hK _ _ h
  | defer d=>show K' (Act.put _ _ _) _;rw [show ({ jN t a with defers:=d::(jN t a).defers }:Act)=jN t { a with defers:=d::a.defers } from rfl,mW];exact hK _ _ h
  | enter f args=>
   rw [Oper.upon_enter] at h ⊢;refine Calls.mono h ?_;intro e w'' hh
   cases e with
   | returned v=>show K' _ _;rw [mW];exact hK _ _ hh
   | panicked ch=>exact ⟨a,rfl,hh⟩
   | outgrown=>exact C3 hh
  | row rw' args=>exact Rows.mono h fun v w'' hh=>by show K' _ _;rw [mW];exact hK _ _ hh
  | _=>exact h.elim
 | halt s w'=>
  cases s<;>first|exact ⟨a,rfl,h⟩|exact h.elim
theorem vV (hno:¬LetsOut Q):∀(L:List Oper) (a:Act) (w:World),wpList P ops Q L a w->wpList P ops (BB t Q) L (jN t a) w
 | [],a,w,h=>⟨a,rfl,h⟩
 | o::L,a,w,h=>by
  simp only [wpList] at h ⊢;show if Region.wanted o (yielded ops a.tmps) then _ else _
  split
  ·rename_i hw
   rw [if_pos hw] at h
   rcases h with h|h
   ·exact .inl (IC (fun a w h=>vV hno L a w h) h)
   ·exact (hno h.2).elim
  ·rename_i hw
   rw [if_neg hw] at h;rw [mW];exact vV hno L _ _ h
theorem uQ {md:Region.Mode} (hno:¬LetsOut Q):∀(fuel:Nat) (L:Array Bool) (a:Act) (w:World),wpAny P md ops Q fuel L a w->wpAny P md ops (BB t Q) fuel L (jN t a) w
 | 0,L,a,w,h=>⟨h.1,a,rfl,h.2⟩
 | fuel+1,L,a,w,h=>by
  refine ⟨fun hr=>⟨a,rfl,h.1 hr⟩,fun i hi=>?_⟩;have h:=h.2 i hi;unfold wpOp at h ⊢
  split
  ·rename_i ho
   rw [ho] at h;exact uQ hno fuel _ _ _ h
  ·rename_i o ho
   rw [ho] at h;simp only at h;show if Region.wanted o (yielded ops a.tmps) then _ else _
   split
   ·rename_i hw
    rw [if_pos hw] at h
    rcases h with h|h
    ·exact .inl (IC (fun a w h=>uQ hno fuel _ _ _ h) h)
    ·exact (hno h.2).elim
   ·rename_i hw
    rw [if_neg hw] at h;rw [mW];exact uQ hno fuel _ _ _ h
end
def tailW (P:Program) (t:List Deferred):WPS P where
 W:=fun c Q a w=>Code.wp P c (BB t Q) (jN t a) w
 dfr:=true
 mono:=fun h hq=>Go.wp_mono h fun e a w ⟨a0,h1,h2⟩=>⟨a0,h1,hq _ _ _ h2⟩
 skip:=fun h=>wp_skip ⟨_,rfl,h⟩
 exit:=fun h=>wp_exit ⟨_,rfl,h⟩
 ret:=fun h=>wp_ret ⟨_,rfl,h⟩
 seq:=fun h=>wp_seq (Go.wp_mono h fun e a w ⟨a0,h1,h2⟩=>by
  subst h1
  cases e with
  | normal=>exact h2
  | exit id=>exact ⟨a0,rfl,h2⟩
  | goto l=>exact ⟨a0,rfl,h2⟩
  | ret=>exact ⟨a0,rfl,h2⟩
  | panic ch=>exact ⟨a0,rfl,h2⟩
  | outgrown=>exact ⟨a0,rfl,h2⟩)
 cond:=fun hc h1 h2=>wp_cond_split (by rw [BD];exact hc) h1 h2
 block:=fun {id c Q a w} h=>wp_block (Go.wp_mono h fun e a w ⟨a0,h1,h2⟩=>by
  subst h1
  cases e with
  | exit j=>
   simp only [Exit.inBlock] at h2 ⊢
   split
   ·rename_i hj;rw [if_pos hj] at h2;exact ⟨a0,rfl,h2⟩
   ·rename_i hj;rw [if_neg hj] at h2;exact ⟨a0,rfl,h2⟩
  | normal=>exact ⟨a0,rfl,h2⟩
  | goto l=>exact ⟨a0,rfl,h2⟩
  | ret=>exact ⟨a0,rfl,h2⟩
  | panic ch=>exact ⟨a0,rfl,h2⟩
  | outgrown=>exact ⟨a0,rfl,h2⟩)
 loop:=fun {c Q a w} I μ h0 h=>wp_loop_ghost (fun n a w=>∃a0,a=jN t a0/\I a0 w/\μ a0 w=n) (μ a w) ⟨a,rfl,h0,rfl⟩ (by
  rintro n _ w ⟨a0,rfl,h1,rfl⟩;refine Go.wp_mono (h a0 w h1) ?_;rintro e _ w ⟨a1,rfl,h2⟩
  cases e with
  | normal=>exact ⟨_,h2.2,a1,rfl,h2.1,rfl⟩
  | exit id=>exact ⟨a1,rfl,h2⟩
  | goto l=>exact ⟨a1,rfl,h2⟩
  | ret=>exact ⟨a1,rfl,h2⟩
  | panic ch=>exact ⟨a1,rfl,h2⟩
  | outgrown=>exact ⟨a1,rfl,h2⟩)
 list:=fun hno _ h=>wp_region_list (vV hno _ _ _ h)
 any:=fun hm hno _ h=>wp_region_any hm (uQ hno _ _ _ _ h)
variable [Glob]
section
variable {c : Cx} {w00 w0 : World} {n : Nat} {gs : Fr} {st : St} {a : Act}
theorem cZ.gok {next:Nat} (r:cZ c w0 next):GOk c.B c.w:=
 ⟨Nat.le_trans r.kJ.1 r.below.size,r.kJ.2.1,Glob.ok w0 c.w (fun k hk=>r.below.block k (Nat.lt_of_lt_of_le hk r.kJ.2.1)) r.kJ.2.2⟩
theorem Rel.UR {c' : Cx} (r:Rel c w00 n gs st a) (h:Evo c c') (hh:c'.heap=st.heap) (hH:cZ c' w0 st.next):Rel c' w0 n gs st a:=
 ⟨hh,hH,r.size,r.regs.evo h,gs.ok c c' (h.toK _) r.frames,r.mK,r.base,r.defers.evo h⟩
def Cx.others (c:Cx) (X:Nat->Prop):Cx:={ c with J0:=⟨fun b o=>c.J0.J b o\/X b,fun b=>c.J0.X b\/X b⟩ }
theorem Evo.others (X:Nat->Prop):Evo c (c.others X):=by
 refine ⟨fun b o hi=>⟨?_,rfl⟩,fun id b hb=>⟨b,hb,by cases b<;>simp [c6,Cx.others]⟩⟩
 rcases hi with ⟨h1,h2⟩|⟨h1,h2,h3⟩
 ·exact .inl ⟨h1.imp (fun h=>h) .inl,.inl h2⟩
 ·by_cases hx:X b
  ·exact .inl ⟨.inr (.inr hx),.inr hx⟩
  ·refine .inr ⟨fun h=>?_,h2,h3⟩
   rcases h with h|h|h
   ·exact h1 (.inl h)
   ·exact h1 (.inr h)
   ·exact hx h
theorem Rel.others (r:Rel c w0 n gs st a) (X:Nat->Prop) (hX:∀b,X b->b<c.w.heap.size) (hn:∀b,X b->∀id blk,look c.heap id=some blk->Ph (c.pl id) blk->(c.pl id).gb≠b):Rel (c.others X) c.w n gs st a:=by
 refine r.UR (Evo.others X) r.heap ⟨Below.refl _ _,?_,r.hrel.gok,fun id b hl=>cJ.evo (Evo.others X) rfl (fun _=>rfl) (r.hrel.blk id b hl),r.hrel.lt,?_,r.hrel.inj⟩
 ·rintro b (hb|hb)
  ·exact ⟨Nat.lt_of_lt_of_le (r.hrel.other b hb).1 r.hrel.below.size,rfl⟩
  ·exact ⟨hX b hb,rfl⟩
 ·intro id b hl hp hold
  rcases hold with h|h|h
  ·exact r.hrel.ge id b hl hp (.inl h)
  ·exact r.hrel.ge id b hl hp (.inr h)
  ·exact hn _ h id b hl hp rfl
theorem Rel.OM (r:Rel c w0 n gs st a) {L:Nat} {o o' : Obj} (hL:c.J0.X L) (hB:c.B<=L) (ho:c.w.heap[L]? = some o) (h1:o.isCells=false) (h2:o'.isCells=false):Rel { c with w:=c.w.putObj L o' } (c.w.putObj L o') n gs st a:=by
 have hlt:L<c.w.heap.size:=(Array.getElem?_eq_some_iff.1 ho).1;have hsz:(c.w.putObj L o').heap.size=c.w.heap.size:=by simp [World.putObj]
 have hcell:∀b i,(c.w.putObj L o').cell? ⟨b,i,none⟩=c.w.cell? ⟨b,i,none⟩:=by
  intro b i;by_cases hb:b=L
  ·subst hb
   unfold World.cell?;rw [World.putObj_heap_same hlt,ho]
   cases o<;>cases o'<;>simp_all [Obj.isCells]
  ·exact World.cell?_of_block (World.putObj_heap_other (fun e=>hb e))
 have hev:Evo c { c with w:=c.w.putObj L o' }:=by
  refine ⟨fun b i hi=>⟨?_,hcell b i⟩,fun id b hb=>⟨b,hb,by cases b<;>simp [c6]⟩⟩
  rcases hi with h|⟨h1,h2,h3⟩
  ·exact .inl h
  ·exact .inr ⟨h1,by rw [hsz];exact h2,h3⟩
 refine r.UR hev r.heap ⟨Below.refl _ _,fun b hb=>⟨by rw [hsz];exact Nat.lt_of_lt_of_le (r.hrel.other b hb).1 r.hrel.below.size,rfl⟩,?_,?_,r.hrel.lt,r.hrel.ge,r.hrel.inj⟩
 ·obtain ⟨g1,g2,g3⟩:=r.hrel.gok
  exact ⟨by rw [hsz];exact g1,g2,Glob.ok c.w _ (fun k hk=>World.putObj_heap_other (by omega)) g3⟩
 ·intro id b hl
  refine cJ.evo hev rfl (fun hp=>World.putObj_heap_other ?_) (r.hrel.blk id b hl);rintro rfl;exact r.hrel.ge id b hl hp (.inr hL)
end
end Uw
namespace Uw
open Go Go.RowKit
variable [Glob]
theorem l9 {B L:Nat} {w:World} {o:Obj} (h:B<=L):Below B w (w.putObj L o):=
 ⟨rfl,rfl,rfl,by simp [World.putObj],fun k hk=>World.putObj_heap_other (fun e=>absurd e (by omega))⟩
theorem fold_size (ps:List (Tmp×Value)) (t:Array Value):(ps.foldl (fun t (p:Tmp×Value)=>t.setIfInBounds p.1 p.2) t).size=t.size:=by
 induction ps generalizing t with
 | nil=>rfl
 | cons p ps ih=>rw [List.foldl_cons,ih];simp
def Iter (P:Program) (gf:FuncId) (lb:Array Value) (encs:Nat->Array Value) (N:Nat) (OK:World->Prop):Prop:=
 ∀(l:Nat) (J:Nat->World->Prop) (W:World),(∀k W1,J k W1->k<N->YieldAt Fence.wide 0 P l (encs k) W1 fun e W'=>e = .returned (.bool true)/\J (k+1) W')->(∀k W1,J k W1->OK W1)->J 0 W->
  CallsIn Fence.wide 0 P gf (#[.func (.yield l) #[] #[]]++lb) W fun e W'=>(∃v,e = .returned v)/\J N W'
section
variable {P : Program} {n : Nat} {gs : Fr} {c0 : Cx} {w00 : World} {a : Act}
def RI (n:Nat) (gs:Fr) (S:Nat->St) (c0:Cx) (a:Act) (rdy:Obj) (k:Nat) (W:World):Prop:=
 ∃c:Cx,c.w=W/\c.B=c0.B/\c.J0=(c0.others fun b=>b=c0.w.heap.size\/b=c0.w.heap.size+1).J0/\Rel c W n gs (S k) a/\Below c0.B c0.w W/\
  (∀b,c0.J0.X b->W.heap[b]? = c0.w.heap[b]?)/\W.heap[c0.w.heap.size]? = some (.deferred (some []))/\W.heap[c0.w.heap.size+1]? = some rdy
theorem RI.start {S:Nat->St} {rdy:Obj} (r:Rel c0 w00 n gs (S 0) a):RI n gs S c0 a rdy 0 ((c0.w.alloc (.deferred (some []))).alloc rdy):=by
 have hb:Below c0.w.heap.size c0.w ((c0.w.alloc (.deferred (some []))).alloc rdy):=((Below.refl _ c0.w).alloc (Nat.le_refl _) _).alloc (by simp) _;have r1:=r.grow hb;refine ⟨({ c0 with w:=(c0.w.alloc (.deferred (some []))).alloc rdy }:Cx).others (fun b=>b=c0.w.heap.size\/b=c0.w.heap.size+1),rfl,rfl,rfl,r1.others (fun b=>b=c0.w.heap.size\/b=c0.w.heap.size+1) ?_ ?_,hb.mono r.hrel.yr,fun b hx=>?_,?_,?_⟩
 ·rintro b (rfl|rfl)<;>simp<;>omega
 ·rintro b hx id blk hl hp rfl
  have:=r.hrel.jI hl hp
  rcases hx with h|h
  ·have h:(c0.pl id).gb=c0.w.heap.size:=h
   omega
  ·have h:(c0.pl id).gb=c0.w.heap.size+1:=h
   omega
 ·exact hb.block b (Nat.lt_of_lt_of_le (r.hrel.other b hx).1 r.hrel.below.size)
 ·exact (Below.heap_alloc _ _ _ (by simp)).trans (World.alloc_heap_new c0.w _)
 ·have:=World.alloc_heap_new (c0.w.alloc (.deferred (some []))) rdy
  rwa [World.size_alloc] at this
theorem LL {g:Operand} {ps:Array Tmp} {as bd:Code} {Q:Exit->Act->World->Prop} {gf:Nat} {lb:Array Value} (hg:a.eval g = .func (.func gf) #[] lb) (eg:∀args w,(callFunc gf args).run P w = .ok (.enter gf args) w)
  (N:Nat) (encs:Nat->Array Value) (hps:∀k,(encs k).size=ps.size) (R:fp) (base:Nat) (S:Nat->St) (hS:∀k,(S k).regs=R/\(S k).defers=[]/\(S k).base=base) (r:Rel c0 w00 n gs (S 0) a)
  (OK:World->Prop) (hOK:∀c:Cx,gs.p c->(∀b,c0.J0.X b->c.w.heap[b]? = c0.w.heap[b]?)->OK c.w) (hit:Iter P gf lb encs N OK)
  {pol VK : Pol} {mas mbd:b9} (hcas:comp P n pol as=some mas) (VL:comp P n VK bd=some mbd) (hn1:noD as=true) (hn2:noD bd=true) (Sz:Nat->fp)
  (US:∀(k:Nat) (c:Cx),k<N->gs.p c->lZ c R a.tmps->lZ c (Sz k++R) ((ps.zip (encs k)).foldl (fun t (p,v)=>t.setIfInBounds p v) a.tmps))
  (round:∀k,k<N->WT P (fun e s=>e = .normal/\WT P (fun e s'=>e = .normal/\s'.defers=[]/\Weak ⟨R,s'.heap,s'.next,[],base⟩ (S (k+1))) (exec mbd s Tree.done)) (exec mas ⟨Sz k++R,(S k).heap,(S k).next,[],(S k).next⟩ Tree.done))
  (hdone:∀(c:Cx),c.B=c0.B->c.J0=(c0.others fun b=>b=c0.w.heap.size\/b=c0.w.heap.size+1).J0->Rel c c.w n gs (S N) a->Below c0.B c0.w c.w->c.w.heap[c0.w.heap.size]? = some (.deferred (some []))->
   Q .normal { a with defers:={ target:=.collected c0.w.heap.size,args:=#[] }::a.defers } c.w):(Code.rangeFunc g ps as bd).wp P Q a c0.w:=by
 refine (wpIn_wide (n:=0)).1 (wpIn_rangeFunc ?_);intro fn _;obtain ⟨rec,hrec⟩:∃rec:LoopState->Loop,rec=fun st=>{ state:=st,pending:=none,fn,tmps:=a.tmps,params:=ps,assign:=as,body:=bd,defers:=c0.w.heap.size }:=⟨_,rfl⟩
 obtain ⟨W1,hW1⟩:∃W1,(c0.w.alloc (.deferred (some []))).alloc (.loop (rec .ready))=W1:=⟨_,rfl⟩
 have h0:RI n gs S c0 a (.loop (rec .ready)) 0 W1:=by rw [<- hW1];exact RI.start r
 obtain ⟨L,hL⟩:∃L,c0.w.heap.size+1=L:=⟨_,rfl⟩
 have hBL:c0.B<=L:=by have:=r.hrel.yr;omega
 refine ⟨L,[{ target:=.collected c0.w.heap.size,args:=#[] }],W1,{ target:=.fn (.func gf) lb,args:=#[.func (.yield L) #[] #[]] },W1,gf,#[.func (.yield L) #[] #[]]++lb,W1,?_,?_,fun _ _=>trivial,?_,fun h=>(by simp [Fence.wide] at h),?_⟩
 ·rw [<- hW1,hrec,<- hL];exact run_enterLoop_outer _ _ _ _ _
 ·simp only [resolve,hg]
  simp [go_sem]
 ·simp [invoke,go_sem,eg]
 refine (hit L (RI n gs S c0 a (.loop (rec .ready))) W1 ?_ ?_ h0).mono ?_
 ·-- one round
  rintro k W ⟨c,rfl,hB,hJ,rk,hbel,hX,hD,hLo⟩ hk;rw [hL] at hLo;obtain ⟨e1,e2,e3⟩:=hS k;have hXL:c.J0.X L:=by rw [hJ];exact .inr (.inr hL.symm)
  have hXD:c.J0.X c0.w.heap.size:=by rw [hJ];exact .inr (.inl rfl)
  have hX0:∀b,c0.J0.X b->c.J0.X b:=fun b hb=>by rw [hJ];exact .inl hb
  have VM:∀b,c0.J0.X b->b≠L:=fun b hb e=>by
   have h1:=(r.hrel.other b hb).1;have h2:=r.hrel.below.size;omega
  have hy:=run_yield (P:=P) (args:=encs k) hLo (by rw [hrec];exact hps k);rw [hrec] at hy;refine ⟨fn,_,as,bd,hy,roundIn_of_wpIn trivial ?_⟩;have rr:Rel c c.w n (yB gs (S k) a rk.frK) ⟨Sz k++R,(S k).heap,(S k).next,[],(S k).next⟩ { tmps:=(ps.zip (encs k)).foldl (fun t (p,v)=>t.setIfInBounds p v) a.tmps,defers:=[] }:=by
   refine ⟨rk.heap,rk.hrel,?_,US k c hk rk.frames (by rw [<- e1];exact rk.regs),rk.Rx,Nat.le_refl _,Nat.le_refl _,rfl⟩;have:=fold_size (ps.zip (encs k)).toList a.tmps;rw [<- Array.foldl_toList];exact this.trans rk.size
  refine wpIn_mono (kD (KJ P L 0) as mas hcas (.inr hn1) Tree.done c _ _ rr (round k hk)) ?_;rintro e a1 w1 ⟨c1,me,st1,b1,j1,rfl,x1,r1,hq1⟩;simp only [WT] at hq1;obtain ⟨rfl,hq1⟩:=hq1
  cases e<;>simp only [bG] at x1
  have o1:c1.w.heap[L]? = some (.loop (rec .ready)):=((r1.hrel.other L (by rw [j1];exact hXL)).2).trans hLo;refine ⟨_,run_beginRound o1 (by rw [hrec]),?_⟩;have r2:=r1.OM (o':=.loop { rec .ready with state:=.busy }) (by rw [j1];exact hXL) (by rw [b1,hB];exact hBL) o1 rfl rfl;refine wpIn_mono (kD (KJ P L 0) bd mbd VL (.inr hn2) Tree.done _ _ _ r2 hq1) ?_;rintro e a2 w2 ⟨c2,me,st2,b2,j2,rfl,x2,r3,hq2⟩;simp only [WT] at hq2;obtain ⟨rfl,hd2,hw2⟩:=hq2
  cases e<;>simp only [bG] at x2
  have hlt1:L<c1.w.heap.size:=(Array.getElem?_eq_some_iff.1 o1).1;have o2:c2.w.heap[L]? = some (.loop { rec .ready with state:=.busy }):=((r3.hrel.other L (by rw [j2];show c1.J0.X L;rw [j1];exact hXL)).2).trans (World.putObj_heap_same hlt1);refine ⟨_,_,run_endRound none o2,rfl,?_⟩;have hfr:=r3.frames;have r4:Rel c2 (c1.w.putObj L (.loop { rec .ready with state:=.busy })) n gs ⟨R,st2.heap,st2.next,[],base⟩ a:=by
   refine ⟨r3.heap,r3.hrel,rk.size,fun i v hv=>(hfr.1 i v (by rw [e1];exact hv)).2,hfr.2.2,by rw [<- e3];exact rk.mK,?_,?_⟩
   ·rw [<- e3];exact Nat.le_trans rk.base (Nat.le_trans r3.mK r3.base)
   ·have:=hfr.2.1.2;rw [e2] at this;exact this
  obtain ⟨c3,b3,j3,w3,_,r5⟩:=r4.weak hw2;have hJ3:c3.J0=c.J0:=j3.trans (j2.trans j1);have hB3:c3.B=c0.B:=b3.trans (b2.trans (b1.trans hB));have r6:=r5.OM (o:=.loop { rec .ready with state:=.busy }) (o':=.loop (rec .ready)) (by rw [hJ3];exact hXL) (by rw [hB3];exact hBL) (by rw [w3];exact o2) rfl rfl;have hlt2:L<c2.w.heap.size:=(Array.getElem?_eq_some_iff.1 o2).1;rw [w3] at r6;have UT:(Obj.loop { ({ rec .ready with state:=.busy }:Loop) with state:=if (none:Option Code).isNone then .ready else .done,pending:=none }) = .loop (rec .ready):=by rw [hrec];rfl
  rw [UT];have keep:∀b,c.J0.X b->b≠L->(c2.w.putObj L (.loop (rec .ready))).heap[b]? = c.w.heap[b]?:=by
   intro b hb hbL;rw [World.putObj_heap_other hbL,(r3.hrel.other b (by rw [j2];show c1.J0.X b;rw [j1];exact hb)).2,World.putObj_heap_other hbL,(r1.hrel.other b (by rw [j1];exact hb)).2]
  refine ⟨{ c3 with w:=c2.w.putObj L (.loop (rec .ready)) },rfl,hB3,hJ3.trans hJ,r6,?_,fun b hb=>(keep b (hX0 b hb) (VM b hb)).trans (hX b hb),(keep _ hXD (by omega)).trans hD,?_⟩
  ·have q1:=r1.hrel.below
   have q2:=r3.hrel.below;rw [b1,hB] at q1;rw [b2,show ({ c1 with w:=c1.w.putObj L (.loop { rec .ready with state:=.busy }) }:Cx).B=c0.B from b1.trans hB] at q2;exact (((hbel.trans q1).trans (l9 hBL)).trans q2).trans (l9 hBL)
  ·rw [hL];exact World.putObj_heap_same hlt2
 ·rintro k W ⟨c,rfl,hB,hJ,rk,hbel,hX,hD,hLo⟩
  exact hOK c rk.frames hX
 ·rintro e W ⟨⟨v,rfl⟩,c,rfl,hB,hJ,rk,hbel,hX,hD,hLo⟩
  rw [hL] at hLo;have hXL:c.J0.X L:=by rw [hJ];exact .inr (.inr hL.symm)
  refine ⟨none,_,by have:=run_endLoop (P:=P) hLo (by rw [hrec];simp);rw [hrec] at this;exact this,?_⟩;have r1:=rk.OM (o':=.loop { state:=.exhausted,pending:=none,fn,tmps:=a.tmps,params:=ps,assign:=as,body:=bd,defers:=c0.w.heap.size }) hXL (by rw [hB];exact hBL) hLo rfl rfl;exact hdone { c with w:=c.w.putObj L _ } hB hJ r1 (hbel.trans (l9 hBL)) ((World.putObj_heap_other (by omega)).trans hD)
end
end Uw
namespace Uw
open Go Go.RowKit
def cL:Code->Code
 | .seq x _=>x
 | .block _ x=>x
 | .loop x=>x
 | .rangeFunc _ _ x _=>x
 | c=>c
def cR:Code->Code
 | .seq _ y=>y
 | .rangeFunc _ _ _ y=>y
 | c=>c
def gQ (P:Program) (f:FuncId):Code:=match P.funcs[f]? with
 | some fn=>fn.body.getD .skip
 | none=>.skip
def IE (P:Program) (f:FuncId) (n:Nat) (res:List jh) (code:Code):Prop:=∃fn,P.funcs[f]? = some fn/\fn.body=some code/\fn.ntmps=n/\ip P fn.results.toList=some res
variable [Glob]
section
variable {P : Program} {n : Nat} {gs : Fr} {c : Cx} {w0 : World} {st : St} {a : Act} {Q : Exit -> Act -> World -> Prop}
theorem x7 {x y:Code} {pol:Pol} {m:b9} (hc:comp P n pol x=some m) (r:Rel c w0 n gs st a) (S1:St) (h:WT P (fun e s=>e = .normal/\Weak s S1) (exec m st Tree.done))
  (next:∀(c' : Cx) (a' : Act),c'.B=c.B->c'.J0=c.J0->Rel c' w0 n gs S1 a'->Code.wp P y Q a' c'.w):Code.wp P (.seq x y) Q a c.w:=by
 refine wp_seq (Go.wp_mono (kD (plainW P) x m hc (.inl rfl) Tree.done c st a r h) ?_);rintro e a' w' ⟨c1,me,st1,b1,j1,rfl,x1,r1,hq⟩;simp only [WT] at hq;obtain ⟨rfl,hw⟩:=hq
 cases e<;>simp only [bG] at x1
 obtain ⟨c2,b2,j2,w2,_,r2⟩:=r1.weak hw;have:=next c2 a' (b2.trans b1) (j2.trans j1) r2;rw [w2] at this;exact this
theorem wQ.of {st st' : St} (h1:oC (dh []) st.regs st.heap st'.heap st'.regs) (h2:Ls (dh []) st.heap st'.heap st'.next st'.heap) (h3:st'.base=st.base) (h4:Nat.ble st.base st'.next=true) (h5:Bv (dh []) st.heap st'.heap st.base)
  (h6:cF st'.heap st'.defers=true) (h7:st.defers=fC (dh []) st'.defers):wQ (dh []) st st':=
 ⟨fun i v h=>kl h1 i v h,fun i b h=>(km h2 i b h).1,fun i b h=>(km h2 i b h).2,h3,Nat.le_of_ble_eq_true h4,mV h5,fun id id' _ _ he=>he,h6,h7⟩
theorem Rel.forget (r:Rel c w0 n gs st a) {st' : St} (h:wQ (dh []) st st') {id0:Nat} {cs0:List V} (hid:look st.heap id0=some (.var cs0)) (hno:look st'.heap id0=none) :
  Rel (c.weak (dh []) st'.heap) w0 n gs st' a/\∀id blk,look (c.weak (dh []) st'.heap).heap id=some blk->Ph ((c.weak (dh []) st'.heap).pl id) blk->((c.weak (dh []) st'.heap).pl id).gb≠(c.pl id0).gb:=by
 refine ⟨r.Ln h,fun id blk hl hp hg=>?_⟩;have hs:∀id b',look st'.heap id=some b'->(∃b,look c.heap (dh [] id)=some b/\nD (dh []) c.heap st'.heap b b')\/(look c.heap (dh [] id)=none/\ju b'):=by rw [r.heap];exact h.heap
 have hl' : look st'.heap id=some blk:=hl
 rcases hs id blk hl' with ⟨b,hb,dV⟩|⟨hn,hz⟩
 ·rw [fL hs hb] at hp hg
  rw [<- r.heap] at hid;have:=r.hrel.inj id id0 b _ hb hid (dV.ph hp) trivial hg;subst this;rw [hno] at hl';cases hl'
 ·rw [q8 hs hn] at hp
  cases blk<;>simp [ju,Ph] at hz hp
theorem JD {c' : Cx} {fn:Func} {res:List jh} {J:Nat->Nat->Prop} {w:World} {st' : St} {a' : Act} (e5:Rel c' w0 n gs st' a') (hres:ip P fn.results.toList=some res) (hB:c'.B=w.heap.size)
  (hJ:∀b o,c'.Old b->c'.J0.J b o->J b o\/(w.heap.size<=b/\b<c'.w.heap.size))
  {vs:List V} {ds:List Dat} (g1:resV st' res=some vs) (g2:eI st'.heap vs=some ds) (g3:yK st'.heap vs=true) :
  ∃v,(results fn a'.tmps).run P c'.w = .ok v c'.w/\aE c'.w (fun b o=>J b o\/(w.heap.size<=b/\b<c'.w.heap.size)) (lI ds) v:=by
 have hk:Keeps c'.w c'.w (Imm c') (fun b o=>J b o\/(w.heap.size<=b/\b<c'.w.heap.size)):=by
  intro b o hi;refine ⟨?_,rfl⟩
  rcases hi with ⟨h1,hi⟩|⟨hi1,hi2,_⟩
  ·exact hJ b o h1 hi
  ·exact .inr ⟨Nat.le_of_not_lt fun h=>hi1 (.inl (by rw [hB];exact h)),hi2⟩
 obtain ⟨us,f1,f2⟩:=q9 (P:=P) e5 hres g1;rw [<- e5.heap] at g2 g3;have k1:=uL e5.hrel hk (fun b o h1 h2=>.inr ⟨Nat.le_of_not_lt fun h=>h1 (.inl (by rw [hB];exact h)),h2⟩) g2 g3 f2;refine ⟨_,l7 f1,?_⟩;have hl:=k1.length
 match ds,k1,hl with
 | [],k1,hl=>simp [aX] at k1;subst k1;exact ⟨[],by simp,rfl⟩
 | [d],k1,hl=>
  obtain ⟨u,us',rfl,h1,h2⟩:=k1;simp [aX] at h2;subst h2;simpa [lI] using h1
 | d::d'::r,k1,hl=>
  rw [dif_neg (by simp at hl ⊢;omega)];exact ⟨us,rfl,k1⟩
def OO (w:World) (J:Nat->Nat->Prop) (r:Dat) (e:Ending) (w' : World):Prop:=∃v,e = .returned v/\aE w' (fun b o=>J b o\/(w.heap.size<=b/\b<w'.heap.size)) r v/\Below w.heap.size w w'
theorem SA {fn:Func} {res:List jh} {J:Nat->Nat->Prop} {w:World} {y:Code} {pol:Pol} {m:b9} {rr:Dat} (hres:ip P fn.results.toList=some res) (hc:comp P n pol y=some m) {D:Nat} (r:Rel c c.w n gs st a) (hd:a.defers=[])
  (hB:c.B=w.heap.size) (hX:c.J0.X D) (hXB:∀b,c.J0.X b->w.heap.size<=b) (hJ:∀b o,c.J0.J b o->J b o\/c.J0.X b) (hD:c.w.heap[D]? = some (.deferred (some []))) (hbel:Below w.heap.size w c.w)
  (h:WT P (EX res rr) (exec m st Tree.done)):Code.wp P y (bodyPostM Fence.wide 0 P fn (OO w J rr)) { a with defers:={ target:=.collected D,args:=#[] }::a.defers } c.w:=by
 have hex:=kD (tailW P [{ target:=.collected D,args:=#[] }]) y m hc (.inl rfl) Tree.done c st a r h;have e' : Code.wp P y (BB [{ target:=.collected D,args:=#[] }] (Came P (EX res rr) Tree.done c c.w n gs)) (jN [{ target:=.collected D,args:=#[] }] a) c.w:=hex;have ea:jN [{ target:=.collected D,args:=#[] }] a={ a with defers:={ target:=.collected D,args:=#[] }::a.defers }:=by unfold jN;rw [hd];rfl
 rw [ea] at e';refine Go.wp_mono e' ?_;clear hex e';rintro ex a2 w2 ⟨a0,rfl,c',me,st',e1,e2,rfl,e4,e5,e6⟩;simp only [WT] at e6;obtain ⟨g1,g2,vs',ds,g3,g4,g5,rfl⟩:=e6;have hXD:c'.J0.X D:=by rw [e2];exact hX
 have hD2:c'.w.heap[D]? = some (.deferred (some [])):=(e5.hrel.other D hXD).2.trans hD;have hBD:c'.B<=D:=by rw [e1,hB];exact hXB D hX
 have e7:=e5.OM (o':=.deferred none) hXD hBD hD2 rfl rfl;have hsz:(c'.w.putObj D (.deferred none)).heap.size=c'.w.heap.size:=by simp [World.putObj]
 obtain ⟨v,hv1,hv2⟩:=JD (P:=P) (w:=w) (J:=J) e7 hres (e1.trans hB) (by
  intro b o h1 h2
  rcases hJ b o (by rw [<- e2];exact h2) with h3|h3
  ·exact .inl h3
  ·refine .inr ⟨hXB b h3,?_⟩
   show b<(c'.w.putObj D (.deferred none)).heap.size;rw [hsz];have:=(e5.hrel.other b (by rw [e2];exact h3)).1;exact Nat.lt_of_lt_of_le this e5.hrel.below.size) g3 g4 g5
 have UU:Below w.heap.size w (c'.w.putObj D (.deferred none)):=by
  have:=e5.hrel.below;rw [e1,hB] at this;exact (hbel.trans this).trans (l9 (by rw [<- hB,<- e1];exact hBD))
 have hdf:a0.defers=[]:=by have:=e5.defers;rw [g2] at this;exact this
 have key:LeavesInM Fence.wide 0 P fn (jN [{ target:=.collected D,args:=#[] }] a0).tmps (OO w J (lI ds)) (jN [{ target:=.collected D,args:=#[] }] a0).defers .returning c'.w:=by
  unfold jN;rw [hdf];exact ⟨by simp,.inl ⟨D,_,rfl,run_takeDeferred hD2,v,hv1,v,rfl,hv2,UU⟩⟩
 cases ex with
 | normal=>exact key
 | ret=>exact key
 | exit id=>cases me<;>simp only [bG] at e4;simp at g1
 | goto l=>cases me<;>simp only [bG] at e4
 | panic ch=>cases me<;>simp only [bG] at e4;simp at g1
 | outgrown=>cases me<;>simp only [bG] at e4
theorem JE {f:FuncId} {res:List jh} {code:Code} {args:List Dat} {rr:Dat} (hf:IE P f n res code) (hn:args.length<=n)
  (h:∀(fn:Func) (w:World) (J:Nat->Nat->Prop) (c:Cx) (a:Act),ip P fn.results.toList=some res->c.B=w.heap.size->c.J0=⟨J,fun _=>False⟩->c.w=w->a.defers=[]->Rel c w n Fr.none (oz args) a->Code.wp P code (bodyPostM Fence.wide 0 P fn (OO w J rr)) a w):Ret P f args rr:=by
 obtain ⟨fn,h1,h2,h3,h4⟩:=hf;intro w J vs hG hrel;refine (callsIn_wide (n:=0)).1 (callsIn_of_wp_marks h1 h2 trivial ?_ rfl);rw [h3];exact wpIn_wide.2 (h fn w J _ _ h4 rfl rfl rfl rfl (Rel.init hG hrel hn))
end
end Uw
namespace Uw
open Go
variable [Glob]
def JF (ρ:Nat->Nat) (H h0:Heap):Nat->List Blk->Prop
 | _,[]=>True
 | i,b'::r=>((∃b,look H (ρ i)=some b/\nD ρ H h0 b b')\/(look H (ρ i)=none/\ju b'))/\JF ρ H h0 (i+1) r
theorem LM {ρ:Nat->Nat} {H h0:Heap}:∀{bs:List Blk} {i:Nat},JF ρ H h0 i bs->∀j b',look (br i bs) j=some b'->(∃b,look H (ρ j)=some b/\nD ρ H h0 b b')\/(look H (ρ j)=none/\ju b')
 | [],_,_,j,b',h=>by simp [br,look] at h
 | b0::r,i,⟨h1,h2⟩,j,b',h=>by
  rw [br,ai] at h;by_cases e:i=j
  ·subst e
   rw [if_pos rfl] at h;injection h with h;subst h;exact h1
  ·rw [if_neg e] at h
   exact LM h2 j b' h
theorem LN {P:Program} {Q:aH->St->Prop} {f:FuncId} {vs vs0:List V} {H:Heap} {nx:Nat} {k:Res->Heap->Nat->Tree} {bs:List Blk} {R0:Res->Heap->Nat->Prop} (ids:List Nat) (hs:l5 P f vs0 (br 0 bs) bs.length R0)
  (hm:Nat.ble ids.length bs.length=true) (AB:(ids.all fun a=>Nat.blt a nx)=true) (hnd:tP ids=true) (hfit:JF (nameOf ids nx) H (br 0 bs) 0 bs) (hvs:VWL (nameOf ids nx) H (br 0 bs) vs vs0)
  (h2:∀r0 h0 n0,R0 r0 h0 n0->WT P Q (k (r0.ren (nameOf ids nx)) (tO (nameOf ids nx) h0++H) (nx+(n0 - ids.length)))):WT P Q (.sub f vs H nx k):=by
 refine RO (l5.frame hs ids (Nat.le_of_ble_eq_true hm) (fun a ha=>by have:=List.all_eq_true.1 AB a ha;simpa using this) (BA hnd) (LM hfit) hvs) ?_;rintro r h n ⟨r0,h0,n0,h1,rfl,rfl,rfl⟩;exact h2 r0 h0 n0 h1
def bk (P:Program) (f:FuncId) (vs:List V) (bs:List Blk) (r:V) (bs' : List Blk):Prop:=l5 P f vs (br 0 bs) bs.length fun r' h n=>r' = .val r/\h=br 0 bs'/\n=bs'.length
def kP (P:Program) (f:FuncId) (vs:List V) (bs:List Blk) (d:Dat):Prop:=l5 P f vs (br 0 bs) bs.length fun r' h n=>r' = .pan d
section
variable {P : Program} {Q : aH -> St -> Prop} {f : FuncId} {vs vs0 : List V} {H : Heap} {k : Res -> Heap -> Nat -> Tree} {bs bs' : List Blk} {v : V} {d : Dat}
theorem ag (nx:Nat) (ids:List Nat) (hs:bk P f vs0 bs v bs')
  (h2:WT P Q (k (.val (v.ren (nameOf ids nx))) (tO (nameOf ids nx) (br 0 bs')++H) (nx+(bs'.length - ids.length))))
  (hm:Nat.ble ids.length bs.length=true:=by rfl) (AB:(ids.all fun a=>Nat.blt a nx)=true:=by rfl) (hnd:tP ids=true:=by rfl)
  (hfit:JF (nameOf ids nx) H (br 0 bs) 0 bs:=by
   repeat' first
    | exact trivial
    | refine And.intro (Or.inl ⟨_,rfl,⟨rfl,rfl⟩⟩) ?_
    | refine And.intro (Or.inl ⟨_,rfl,⟨rfl,rfl,rfl⟩⟩) ?_
    | refine And.intro (Or.inl ⟨_,rfl,?_⟩) ?_
    | refine And.intro (Or.inr ⟨rfl,rfl⟩) ?_
    | refine And.intro (Or.inr ⟨rfl,rfl,rfl⟩) ?_
    | exact cQ (by first|with_reducible rfl|assumption|omega)
    | exact yO (by first|with_reducible rfl|assumption|omega|(simp;done)|(simp;omega)) rfl rfl
    | exact Or.inl ⟨rfl,rfl⟩
    | exact Or.inr (Or.inl ⟨rfl,by first|exact ⟨_,_,rfl,rfl,Or.inl rfl⟩|exact ⟨_,_,rfl,rfl,Or.inr rfl⟩⟩)
    | refine And.intro ?_ ?_)
  (hvs:VWL (nameOf ids nx) H (br 0 bs) vs vs0:=by
   repeat' first
    | exact trivial
    | refine And.intro (cQ (by first|with_reducible rfl|assumption|omega)) ?_
    | refine And.intro (Or.inl ⟨rfl,rfl⟩) ?_
    | refine And.intro (Or.inr (Or.inl ⟨rfl,by first|exact ⟨_,_,rfl,rfl,Or.inl rfl⟩|exact ⟨_,_,rfl,rfl,Or.inr rfl⟩⟩)) ?_):WT P Q (.sub f vs H nx k):=by
 refine LN ids hs hm AB hnd hfit hvs ?_;rintro r0 h0 n0 ⟨rfl,rfl,rfl⟩;exact h2
theorem bh (nx:Nat) (ids:List Nat) (hs:kP P f vs0 bs d) (h2:∀h n,WT P Q (k (.pan d) h n))
  (hm:Nat.ble ids.length bs.length=true:=by rfl) (AB:(ids.all fun a=>Nat.blt a nx)=true:=by rfl) (hnd:tP ids=true:=by rfl)
  (hfit:JF (nameOf ids nx) H (br 0 bs) 0 bs:=by
   repeat' first
    | exact trivial
    | refine And.intro (Or.inl ⟨_,rfl,⟨rfl,rfl⟩⟩) ?_
    | refine And.intro (Or.inl ⟨_,rfl,⟨rfl,rfl,rfl⟩⟩) ?_
    | refine And.intro (Or.inl ⟨_,rfl,?_⟩) ?_
    | refine And.intro (Or.inr ⟨rfl,rfl⟩) ?_
    | refine And.intro (Or.inr ⟨rfl,rfl,rfl⟩) ?_
    | exact cQ (by first|with_reducible rfl|assumption|omega)
    | exact yO (by first|with_reducible rfl|assumption|omega|(simp;done)|(simp;omega)) rfl rfl
    | exact Or.inl ⟨rfl,rfl⟩
    | exact Or.inr (Or.inl ⟨rfl,by first|exact ⟨_,_,rfl,rfl,Or.inl rfl⟩|exact ⟨_,_,rfl,rfl,Or.inr rfl⟩⟩)
    | refine And.intro ?_ ?_)
  (hvs:VWL (nameOf ids nx) H (br 0 bs) vs vs0:=by
   repeat' first
    | exact trivial
    | refine And.intro (cQ (by first|with_reducible rfl|assumption|omega)) ?_
    | refine And.intro (Or.inl ⟨rfl,rfl⟩) ?_
    | refine And.intro (Or.inr (Or.inl ⟨rfl,by first|exact ⟨_,_,rfl,rfl,Or.inl rfl⟩|exact ⟨_,_,rfl,rfl,Or.inr rfl⟩⟩)) ?_):WT P Q (.sub f vs H nx k):=by
 refine LN ids hs hm AB hnd hfit hvs ?_;rintro r0 h0 n0 rfl;exact h2 _ _
theorem l5.UV {P:Program} {f:FuncId} {vs:List V} {h:Heap} {nx:Nat} {R0 R:Res->Heap->Nat->Prop} (hs:l5 P f vs h nx R0)
  (hq:∀r h0 n0,R0 r h0 n0->∃v v' h1 n1,r = .val v/\Weak ⟨[(0,v)],h0,n0,[],nx⟩ ⟨[(0,v')],h1,n1,[],nx⟩/\R (.val v') h1 n1):l5 P f vs h nx R:=by
 refine ⟨hs.1,fun c w0 F gvs h1 h2 h3 h4 h5=>(hs.2 c w0 F gvs h1 h2 h3 h4 h5).mono ?_⟩;rintro e w' ⟨c',r,nx',e1,e2,e3,e4,e5,e6,e7,e8⟩;obtain ⟨v,v',h1',n1,rfl,hw,hr⟩:=hq _ _ _ e8
 cases e with
 | returned gv=>
  have r0:Rel c' w0 1 F ⟨[(0,v)],c'.heap,nx',[],nx⟩ { tmps:=#[gv],defers:=[] }:=by
   refine ⟨rfl,e4,rfl,?_,e6,h3,e5,rfl⟩;intro i u hu;rw [ai] at hu;by_cases hi:0=i
   ·subst hi
    rw [if_pos rfl] at hu;injection hu with hu;subst hu
    exact e7
   ·rw [if_neg hi] at hu;simp [look] at hu
  obtain ⟨c2,k1,k2,k3,k4,k5⟩:=r0.weak hw;refine ⟨c2,.val v',n1,k1.trans e1,k2.trans e2,k3.trans e3,k5.hrel,k5.base,k5.frames,?_,by rw [k5.heap];exact hr⟩;have:=k5.regs 0 v' (by simp [ai]);show aA c2 v' gv;simpa using this
 | panicked ch=>exact e7.elim
 | outgrown=>exact e7.elim
def EQ (b:Nat) (res:List jh) (v:V) (bs' : List Blk) (e:aH) (st:St):Prop:=(e = .normal\/e = .ret)/\st.defers=[]/\∃vs,resV st res=some vs/\Weak ⟨[(0,o4 vs)],st.heap,st.next,[],b⟩ ⟨[(0,v)],br 0 bs',bs'.length,[],b⟩
def PQ (res:List jh) (d:Dat) (e:aH) (st:St):Prop:=∃st',(st' = st\/Weak st st')/\Hk res (fun r' h n=>r' = .pan d) e st'
theorem aG {m:bJ} (hf:aR P f m) (hn:Nat.ble vs.length m.n=true) (hw:WT P (EQ bs.length m.res v bs') (exec m.code ⟨fr 0 vs,br 0 bs,bs.length,[],bs.length⟩ Tree.done)):bk P f vs bs v bs':=by
 refine l5.UV (R0:=fun r h n=>∃u,r = .val u/\Weak ⟨[(0,u)],h,n,[],bs.length⟩ ⟨[(0,v)],br 0 bs',bs'.length,[],bs.length⟩) (pS hf hn (WT.mono ?_ _ hw)) ?_
 ·rintro e st ⟨he,hd,vs,hr,hw⟩
  refine ⟨st,.inl rfl,?_⟩
  rcases he with rfl|rfl<;>exact ⟨hd,vs,hr,_,rfl,hw⟩
 ·rintro r h0 n0 ⟨u,rfl,hw⟩
  exact ⟨u,v,_,_,rfl,hw,rfl,rfl,rfl⟩
theorem aL {m:bJ} (hf:aR P f m) (hn:Nat.ble vs.length m.n=true) (hw:WT P (PQ m.res d) (exec m.code ⟨fr 0 vs,br 0 bs,bs.length,[],bs.length⟩ Tree.done)):kP P f vs bs d:=pS hf hn hw
theorem aF (b:Nat) {res:List jh} {vs' : List V} {st:St} (hd:st.defers=[]) (hr:resV st res=some vs') (hw:Weak ⟨[(0,o4 vs')],st.heap,st.next,[],b⟩ ⟨[(0,v)],br 0 bs',bs'.length,[],b⟩):WT P (EQ b res v bs') (.done .ret st):=⟨.inr rfl,hd,vs',hr,hw⟩
theorem dp (b:Nat) {res:List jh} {vs' : List V} {st:St} (hd:st.defers=[]) (hr:resV st res=some vs') (hw:Weak ⟨[(0,o4 vs')],st.heap,st.next,[],b⟩ ⟨[(0,v)],br 0 bs',bs'.length,[],b⟩):WT P (EQ b res v bs') (.done .normal st):=⟨.inl rfl,hd,vs',hr,hw⟩
theorem aM {res:List jh} {st:St} (hd:st.defers=[]):WT P (PQ res d) (.done (.panic d) st):=⟨st,.inl rfl,hd,rfl⟩
end
end Uw
namespace Uw
open Go Go.RowKit
variable [Glob]
theorem Ht {ids:List Nat} {nx j:Nat} (hj:j<nx) (hn:ids.contains j=false) (i:Nat):nameOf ids nx i≠j:=by
 intro e
 rcases Nat.lt_or_ge i ids.length with h|h
 ·have:=uP (nx:=nx) h
  rw [e] at this;rw [List.contains_eq_mem] at hn;simp at hn;exact hn this
 ·rw [l8 h] at e
  omega
theorem Weak.rest {ids:List Nat} {nx:Nat} {h0 H H' : Heap} {n n' : Nat} {regs QO : fp} {ds:List V} {b:Nat} (hR:∀p∈QO,look regs p.1=some p.2/\p.2.closed H' = true/\p.2=p.2.ren (dh [])) (hH:∀p∈H',p.1<n'/\p.1<nx/\ids.contains p.1=false/\look H p.1=look H' p.1/\p.2.closed H' = true/\p.2=p.2.ren (dh []))
  (hc:cF H' ds=true) (hd:ds=fC (dh []) ds) (hb:b=0):Weak ⟨regs,tO (nameOf ids nx) h0++H,n,ds,b⟩ ⟨QO,H',n',ds,b⟩:=by
 have hl:∀{α:Type} (l:List (Nat×α)) (i:Nat) (x:α),look l i=some x->(i,x)∈l:=by
  intro α l
  induction l with
  | nil=>intro i x h;simp [look] at h
  | cons p l ih=>
   intro i x h;obtain ⟨j,y⟩:=p;rw [ai] at h;by_cases e:j=i
   ·subst e;rw [if_pos rfl] at h;injection h with h;subst h;exact List.mem_cons_self ..
   ·rw [if_neg e] at h;exact List.mem_cons_of_mem _ (ih i x h)
 refine ⟨dh [],?_,?_,?_,rfl,?_,?_,fun _ _ _ _ e=>e,hc,?_⟩
 ·intro i v' h
  obtain ⟨h1,h2,h3⟩:=hR _ (hl _ _ _ h);exact ⟨v',h1,.inl ⟨h3,h2⟩⟩
 ·intro id b' h
  obtain ⟨_,h2,h3,h4,h5,h6⟩:=hH _ (hl _ _ _ h);refine .inl ⟨b',?_,dZ h6 h5⟩;show look (tO (nameOf ids nx) h0++H) id=_;rw [kO,jM (Ht h2 h3)];show look H id=_;rw [h4,h]
 ·intro id x h
  exact (hH _ (hl _ _ _ h)).1
 ·subst hb;exact Nat.zero_le _
 ·subst hb;intro id h;exact absurd h (Nat.not_lt_zero _)
 ·exact hd
section
variable {P : Program} {Q : aH -> St -> Prop} {f : FuncId} {vs vs0 : List V} {H : Heap} {k : Res -> Heap -> Nat -> Tree} {bs bs' : List Blk} {v : V} {d : Dat}
theorem OP (nx:Nat) (ids:List Nat) (hs:kP P f vs0 bs d) (h2:∀h0 n0,WT P Q (k (.pan d) (tO (nameOf ids nx) h0++H) (nx+(n0 - ids.length))))
  (hm:Nat.ble ids.length bs.length=true:=by rfl) (AB:(ids.all fun a=>Nat.blt a nx)=true:=by rfl) (hnd:tP ids=true:=by rfl)
  (hfit:JF (nameOf ids nx) H (br 0 bs) 0 bs:=by
   repeat' first
    | exact trivial
    | refine And.intro (Or.inl ⟨_,rfl,⟨rfl,rfl⟩⟩) ?_
    | refine And.intro (Or.inl ⟨_,rfl,⟨rfl,rfl,rfl⟩⟩) ?_
    | refine And.intro (Or.inl ⟨_,rfl,?_⟩) ?_
    | refine And.intro (Or.inr ⟨rfl,rfl⟩) ?_
    | refine And.intro (Or.inr ⟨rfl,rfl,rfl⟩) ?_
    | exact cQ (by first|with_reducible rfl|assumption|omega)
    | exact yO (by first|with_reducible rfl|assumption|omega|(simp;done)|(simp;omega)) rfl rfl
    | exact Or.inl ⟨rfl,rfl⟩
    | exact Or.inr (Or.inl ⟨rfl,by first|exact ⟨_,_,rfl,rfl,Or.inl rfl⟩|exact ⟨_,_,rfl,rfl,Or.inr rfl⟩⟩)
    | refine And.intro ?_ ?_)
  (hvs:VWL (nameOf ids nx) H (br 0 bs) vs vs0:=by
   repeat' first
    | exact trivial
    | refine And.intro (cQ (by first|with_reducible rfl|assumption|omega)) ?_
    | refine And.intro (Or.inl ⟨rfl,rfl⟩) ?_
    | refine And.intro (Or.inr (Or.inl ⟨rfl,by first|exact ⟨_,_,rfl,rfl,Or.inl rfl⟩|exact ⟨_,_,rfl,rfl,Or.inr rfl⟩⟩)) ?_):WT P Q (.sub f vs H nx k):=by
 refine LN ids hs hm AB hnd hfit hvs ?_;rintro r0 h0 n0 rfl;exact h2 _ _
end
end Uw
namespace Uw
open Go Go.RowKit
variable [Glob]
section
variable {c : Cx} {w0 : World} {nx : Nat} {J : Nat -> Nat -> Prop} (hh : cZ c w0 nx) (hk : Keeps c.w c.w (Imm c) J)
include hh hk
theorem SB {id ver off len k:Nat} {xs:List (List Dat)} {gv:Value} (hl:look c.heap id=some (.mt k ver xs)) (hnew:0<(c.pl id).cap->∀o,J (c.pl id).gb o) (h:aA c (.ref id ver off len) gv):aE c.w J (.slice k ((xs.drop off).take len) false) gv:=by
 simp only [aA,hl] at h;obtain ⟨_,_,h⟩:=h;obtain ⟨h1,h2⟩:=h rfl;have hlen:((xs.drop off).take len).length=len:=by simp;omega
 rcases h2 with ⟨h2,h3,_⟩|⟨b,o,h2,h3⟩
 ·exact .inl ⟨⟨_,h2,by simp⟩,List.eq_nil_of_length_eq_zero (by omega)⟩
 ·obtain ⟨b3,b4,bb⟩:=hh.blk id _ hl
  refine .inr ⟨b,o,(c.pl id).cap - off,by rw [hlen];exact h2,by rw [hlen];omega,by simp,?_⟩;by_cases hl0:len=0
  ·subst hl0;simp [cB]
  ·obtain ⟨vs,e,g1,g2,g3,g4⟩:=bb (by omega)
   obtain ⟨rfl,rfl⟩:=h3 (by omega);have hfl:=mM b4 off len (by omega);refine cB.of_flat (us:=((vs.toList.take (xs.length * k)).drop (off * k)).take (len * k)) (fun x hx=>b4 x (List.mem_of_mem_drop (List.mem_of_mem_take hx))) ?_ ?_
   ·rw [hfl];exact aX.keep hk _ _ ((g3.drop _).take _)
   ·intro j v hv
    refine ⟨?_,hnew (by omega) _,g4 v (List.mem_of_mem_drop (List.mem_of_mem_take (List.mem_of_getElem? hv)))⟩;rw [List.getElem?_take] at hv
    split at hv
    ·rw [List.getElem?_drop,List.getElem?_take] at hv
     split at hv
     ·rw [bY g1];simpa using hv
     ·simp at hv
    ·simp at hv
def frz (h h' : Heap):List V->Option (List Dat)
 | []=>some []
 | .d x::r=>(frz h h' r).map (x::·)
 | .ref id ver off len::r=>match look h id,look h' id,frz h h' r with
  | some (.arr k xs),_,some l=>some (.slice k ((xs.drop off).take len) false::l)
  | some (.mt k dE xs),none,some l=>match Nat.beq ver dE with
   | true=>some (.slice k ((xs.drop off).take len) false::l)
   | false=>none
  | _,_,_=>none
 | _=>none
theorem x8 {h' : Heap} (hnew:∀id k ver xs,look c.heap id=some (.mt k ver xs)->look h' id=none->0<(c.pl id).cap->∀o,J (c.pl id).gb o):∀{vs:List V} {ds:List Dat} {us:List Value},frz c.heap h' vs=some ds->ax c vs us->aX c.w J ds us
 | [],ds,us,h,r=>by simp [frz] at h;subst h;simpa [aX,ax] using r
 | v::vs,ds,us,h,r=>by
  obtain ⟨u,us',rfl,r1,r2⟩:=r;unfold frz at h
  split at h
  ·rename_i heq;simp at heq
  ·rename_i x rr heq
   simp only [List.cons.injEq] at heq;obtain ⟨rfl,rfl⟩:=heq;rw [Option.map_eq_some_iff] at h;obtain ⟨l,hl,rfl⟩:=h;exact ⟨u,us',rfl,aE.keep hk _ _ r1,x8 hnew hl r2⟩
  ·rename_i id ver off len rr heq
   simp only [List.cons.injEq] at heq;obtain ⟨rfl,rfl⟩:=heq
   split at h
   ·rename_i k xs _ l hl1 hl2
    simp at h;subst h;exact ⟨u,us',rfl,aE.keep hk _ _ (rX hl1 r1),x8 hnew hl2 r2⟩
   ·rename_i k dE xs l hl1 hl2 hl3
    split at h
    ·rename_i hb
     simp at h;subst h;have hb:=Nat.eq_of_beq_eq_true hb;subst hb;exact ⟨u,us',rfl,SB hh hk hl1 (hnew _ _ _ _ hl1 hl2) r1,x8 hnew hl3 r2⟩
    ·simp at h
   ·simp at h
  ·simp at h
end
mutual
theorem LO:∀v:V,v.ren (dh [])=v
 | .ptr id o=>rfl
 | .mG id v i c=>rfl
 | .ref id v o l=>rfl
 | .agg cs=>by rw [V.ren,mD cs]
 | .func f fs cs=>by rw [V.ren,mD fs,mD cs]
 | .tuple cs=>by rw [V.ren,mD cs]
 | .d x=>rfl
 | .ro cs o=>rfl
 | .hnd id=>rfl
 | .row id len=>rfl
 | .undef=>rfl
theorem mD:∀l:List V,fC (dh []) l=l
 | []=>rfl
 | v::r=>by rw [fC,LO v,mD r]
end
theorem l5.freeze {P:Program} {f:FuncId} {vs:List V} {h:Heap} {nx:Nat} {R0 R:Res->Heap->Nat->Prop} (hs:l5 P f vs h nx R0)
  (hq:∀r h0 n0,R0 r h0 n0->∃cs ds h1 n1,r = .val (.agg cs)/\frz h0 h1 cs=some ds/\(∀id x,look h1 id=some x->look h0 id=some x/\x.closed h1=true/\id<n1)/\nx<=n1/\(∀id,id<nx->(look h0 id).isSome=true->(look h1 id).isSome=true)/\R (.val (.agg (ds.map V.d))) h1 n1):l5 P f vs h nx R:=by
 refine ⟨hs.1,fun c w0 F gvs h1 h2 h3 h4 h5=>(hs.2 c w0 F gvs h1 h2 h3 h4 h5).mono ?_⟩;rintro e w' ⟨c',r,nx',e1,e2,e3,e4,e5,e6,e7,e8⟩;obtain ⟨cs,ds,h1',n1,rfl,hd,hw,hn1,hkp,hr⟩:=hq _ _ _ e8
 cases e with
 | returned gv=>
  obtain ⟨us,rfl,e7⟩:=e7;have r0:Rel c' w0 0 F ⟨[],c'.heap,nx',[],nx⟩ { tmps:=#[],defers:=[] }:=
   ⟨rfl,e4,rfl,fun i v hv=>by simp [look] at hv,e6,h3,e5,rfl⟩
  have hwr:wQ (dh []) ⟨[],c'.heap,nx',[],nx⟩ ⟨[],h1',n1,[],nx⟩:=by
   refine ⟨fun i v hv=>by simp [look] at hv,fun i x hx=>.inl ⟨x,(hw i x hx).1,dZ ?_ (hw i x hx).2.1⟩,fun i x hx=>(hw i x hx).2.2,rfl,hn1,fun id hid=>⟨rfl,hkp id hid⟩,fun id id' _ _ he=>he,rfl,rfl⟩
   cases x with
   | var cs=>show Blk.var cs=Blk.var (fC (dh []) cs);rw [mD]
   | _=>rfl
  have r1:=r0.Ln hwr;have hs' : ∀id b',look h1' id=some b'->(∃b,look c'.heap (dh [] id)=some b/\nD (dh []) c'.heap h1' b b')\/(look c'.heap (dh [] id)=none/\ju b'):=hwr.heap;refine ⟨c'.weak (dh []) h1',.val (.agg (ds.map V.d)),n1,e1,e2,e3,r1.hrel,hn1,r1.frames,?_,hr⟩;refine ⟨us,rfl,ax.ofL ?_⟩;refine x8 (c:=c') e4 (jg hs') ?_ hd e7;intro id k ver xs hl hl1 hcap o;refine .inr ⟨e4.ge id _ hl hcap,e4.jI hl hcap,fun id2 SC g1 g2 g3=>?_⟩;exfalso;obtain ⟨k1,_,_⟩:=hw id2 SC g1;have hp:(c'.weak (dh []) h1').pl id2=c'.pl id2:=fL hs' k1;rw [hp] at g2 g3;have:=e4.inj id2 id SC _ k1 hl g2 hcap g3;subst this;have g1:look h1' id2=some SC:=g1;rw [hl1] at g1;cases g1
 | panicked ch=>exact e7.elim
 | outgrown=>exact e7.elim
end Uw
namespace Uw
open Go
noncomputable def runT (res:List jh) (t:Tree):List Dat->Option (List (FuncId×List Dat)×Dat):=
 Tree.rec (motive:=fun _=>List Dat->Option (List (FuncId×List Dat)×Dat))
  (fun e st _=>match e with
   | .ret=>match st.defers,resV st res with
    | [],some vs=>match eI st.heap vs,yK st.heap vs with
     | some ds,true=>some ([],lI ds)
     | _,_=>none
    | _,_=>none
   | _=>none)
  (fun _=>none)
  (fun b _ _ y n as=>match b with|true=>y as|false=>n as)
  (fun _ _ _ _ _=>none)
  (fun _ _ _ _ _=>none)
  (fun xs i _ k as=>match xs[i]? with|some x=>k x as|none=>none)
  (fun s i _ k as=>match s[i]? with|some x=>k x as|none=>none)
  (fun o _ k as=>match o with|some x=>k x as|none=>none)
  (fun o _ k as=>match o with|some x=>k x as|none=>none)
  (fun o _ k as=>match o with|some x=>k x as|none=>none)
  (fun h _ k as=>k h as)
  (fun f ds _ k as=>match as with|r::rs=>(match k r rs with|some (cs,d)=>some ((f,ds)::cs,d)|none=>none)|[]=>none)
  (fun _ _ _ _ _ _ _=>none)
  (fun _ _ _ _ _=>none)
  t
variable [Glob]
def Hu (P:Program):List (FuncId×List Dat)->List Dat->Prop
 | [],_=>True
 | (f,ds)::cs,r::rs=>Ret P f ds r/\Hu P cs rs
 | _::_,[]=>False
theorem OS {P:Program} {res:List jh} {r:Dat}:∀(t:Tree) (as:List Dat) (cs:List (FuncId×List Dat)),runT res t as=some (cs,r)->Hu P cs as->WT P (EX res r) t:=by
 intro t
 induction t with
 | done e st=>
  intro as cs h _
  cases e with
  | ret=>
   simp only [runT] at h
   split at h
   ·rename_i hd hv
    split at h
    ·rename_i h1 h2
     injection h with h
     injection h with h0 h
     exact ak hd hv h1 h2 h
    ·cases h
   ·cases h
  | normal=>cases h
  | exit _=>cases h
  | panic _=>cases h
 | fail=>intro as cs h _;cases h
 | test b y n hy hn=>
  intro as cs h ha
  cases b with
  | true=>exact RL rfl (hy as cs h ha)
  | false=>exact Ou rfl (hn as cs h ha)
 | both=>intro as cs h _;cases h
 | same=>intro as cs h _;cases h
 | elem xs i k ih=>
  intro as cs h ha
  cases hx:xs[i]? with
  | none=>simp only [runT,hx] at h;cases h
  | some x=>simp only [runT,hx] at h;exact dW x hx (ih x as cs h ha)
 | byte xs i k ih=>
  intro as cs h ha
  cases hx:xs[i]? with
  | none=>simp only [runT,hx] at h;cases h
  | some x=>simp only [runT,hx] at h;exact CU x hx (ih x as cs h ha)
 | val o k ih=>
  intro as cs h ha
  cases o with
  | none=>cases h
  | some x=>exact RN x rfl (ih x as cs h ha)
 | blk o k ih=>
  intro as cs h ha
  cases o with
  | none=>cases h
  | some x=>exact mS x rfl (ih x as cs h ha)
 | B2 o k ih=>
  intro as cs h ha
  cases o with
  | none=>cases h
  | some x=>exact CV x rfl (ih x as cs h ha)
 | heq hh k ih=>intro as cs h ha;exact Ov (ih hh as cs h ha)
 | call f ds k ih=>
  intro as cs h ha
  cases as with
  | nil=>cases h
  | cons a as=>
   cases hk:runT res (k a) as with
   | none=>
    have h:(match runT res (k a) as with|some (cs,d)=>some ((f,ds)::cs,d)|none=>none)=some (cs,r):=h;rw [hk] at h;cases h
   | some y=>
    have h:(match runT res (k a) as with|some (cs,d)=>some ((f,ds)::cs,d)|none=>none)=some (cs,r):=h;rw [hk] at h;obtain ⟨cs2,d⟩:=y;injection h with h
    injection h with h1 h2
    subst h1 h2;exact Ix a ha.1 (ih a as cs2 hk ha.2)
 | sub=>intro as cs h _;cases h
 | code=>intro as cs h _;cases h
theorem LP {P:Program} {f:FuncId} {m:bJ} (hf:aR P f m) {args:List Dat} {r:Dat} (cs:List (FuncId×List Dat)) (as:List Dat) (hn:Nat.ble args.length m.n=true) (h:runT m.res (exec m.code (oz args) Tree.done) as=some (cs,r)) (ha:Hu P cs as):Ret P f args r:=az hf hn (OS _ _ _ h ha)
end Uw
namespace Uw
open Go Go.RowKit
section
variable {P : Program} [Glob] {Q : aH -> St -> Prop} {t t' : Tree}
end
end Uw
