/- Parts. -/
import Derived.Below
import Derived.Laws.CopyRow
import Derived.Laws.OwnMore
import Derived.Laws.Rows
import Derived.Lib.SmallJoins
import Derived.OpenShut
import Derived.OrdersHeld
import Derived.OrdersIn
import Derived.ProofKit
import Derived.RangeFuncIn
import Derived.RangeFuncLeaves
import Derived.Room.Entries
import Derived.TacticsIn
import Derived.WalkKit
set_option maxRecDepth 100000
set_option maxHeartbeats 1000000
set_option linter.all false
namespace Go
def ae := @if_neg
def ag := @if_pos
def ah := @Nat.le_of_ble_eq_true
def ai := @decide_eq_false_iff_not
def aj := @Option.some.inj
def ak := @decide_eq_true_eq
def al := @List.set_cons_zero
def am := @decide_eq_true
def ap := @List.getElem?_eq_getElem
def aq := @Nat.zero_le
def ar := @Result.andThen_ok
def au := @List.length_singleton
def av := @beq_eq_false_iff_ne
def aw := @bne_eq_false_iff_eq
def ax := @Bool.and_eq_true
def ay := @Sem.run_bind
def az := @List.length_nil
def be := @Nat.le_refl
def bf := @List.perm_append_comm
def bg := @List.set_cons_succ
def bi := @List.drop_drop
def bj := @Nat.zero_add
def bz := @List.map_append
def ca := @Sem.run_pure
def ce := @List.sublist_cons_self
def cg := @List.nil_append
def ci := @Nat.eq_of_beq_eq_true
def cj := @beq_iff_eq
def cn := @List.append_nil
def co := @bne_iff_ne
def cq := @List.map_cons
def cr := @List.mem_of_getElem?
def ct := @List.length_replicate
def cu := @decide_eq_false
def cw := @List.cons_append
def cx := @List.append_assoc
def cy := @Int.tmod_eq_emod_of_nonneg
def cz := @List.sublist_append_left
def c7 := @List.length_set
def c8 := @Int.toNat_natCast
def da := @List.getD_eq_getElem?_getD
def db := @List.eq_nil_of_length_eq_zero
def dd := @List.mem_of_mem_take
def de := @List.getElem?_map
def df := @of_decide_eq_true
def dg := @List.map_toArray
def dh := @List.map_nil
def di := @List.getElem?_append_left
def dj := @List.take_length
def dk := @of_decide_eq_false
def dm := @List.mem_of_mem_drop
def dp := @List.take_append_drop
def dq := @List.take_of_length_le
def dr := @List.getElem?_toArray
def dt := @List.set_eq_take_append_cons_drop
def du := @Nat.lt_or_ge
def dw := @Int.toNat_of_nonneg
def dx := @List.nodup_append
def dz := @List.Perm.append_right
def d5 := @List.drop_of_length_le
def d6 := @Nat.eq_zero_or_pos
def d7 := @List.getElem?_eq_none
def d8 := @List.mem_append_right
def d9 := @Nat.lt_of_lt_of_le
def ea := @List.mem_cons
def ec := @Nat.add_assoc
def ed := @List.nil_sublist
def ee := @List.getElem?_drop
def ef := @List.length_append
def eg := @List.drop_left'
def eh := @Bool.true_eq_false
def ei := @List.not_mem_nil
def ej := @List.sublist_append_right
def eo := @List.range_succ
def ep := @Bool.eq_iff_iff
def eq := @Bool.false_eq_true
def er := @List.getElem?_cons_succ
def et := @List.getElem?_append_right
def eu := @Int.fdiv_eq_ediv_of_nonneg
def ew := @Bool.not_eq_true'
def ey := @List.toList_toArray
def ez := @List.mem_or_eq_of_mem_set
def fe := @List.getElem?_take
def fh := @Bool.not_eq_true
def fi := @List.getElem_mem
def fj := @List.Sublist.append_left
def fk := @List.getElem?_cons_zero
def fm := @Bool.or_eq_true
def fo := @List.take_left'
def fp := @Array.getElem?_eq_none
def fq := @List.map_take
def fu := @List.take_succ_eq_append_getElem
def fv := @List.drop_eq_getElem_cons
def fw := @Nat.mul_one
def fx := @Nat.min_eq_left
def fy := @Nat.and_two_pow_sub_one_eq_mod
def fz := @Int.emod_nonneg
def f0 := @List.take_add_one
def f2 := @List.length_take
def f3 := @List.drop_left
def f4 := @BitVec.toNat_ofInt
def f5 := @Nat.two_pow_add_eq_or_of_lt
def f7 := @Int.emod_lt_of_pos
def f8 := @List.all_append
def ga := @List.flatMap_cons
def gb := @Nat.mul_le_mul_right
def gc := @List.mem_append_left
def gd := @Nat.pow_le_pow_right
def ge := @List.getElem?_set_ne
def gf := @Nat.zero_mul
def gh := @Nat.mul_comm
def gi := @List.drop_length
def gj := @List.getElem_of_mem
def gk := @Array.getElem?_setIfInBounds_ne
def gl := @Nat.add_sub_cancel_left
def gm := @Bool.true_and
def gn := @List.all_cons
def go := @Nat.max_eq_left
def gp := @Int.pow_pos
def gq := @List.drop_eq_nil_of_le
def gr := @Nat.le_trans
def gt := @Nat.add_zero
def gu := @List.take_zero
def gv := @Nat.testBit_shiftLeft
def gw := @List.mem_range
def gz := @Array.getElem?_modify
def g9 := @List.length_filter_le
def ia := @Array.getD_eq_getD_getElem?
def ib := @Bool.or_eq_false_iff
def ic := @List.length_drop
def ie := @BitVec.toNat_and
def ig := @List.length_dropLast
def ii := @List.map_drop
def ij := @List.getElem?_range
def ik := @Nat.zero_lt_one
def il := @List.mem_singleton
def im := @Int.natCast_nonneg
def io := @List.take_left
def ip := @List.foldl_append
def iq := @Nat.pow_pos
def ir := @List.getElem?_set_self
def iu := @Int.le_refl
def iv := @List.take_add
def iw := @Bool.and_true
def iy := @List.length_cons
def iz := @List.drop_append
def i2 := @Int.emod_add_mul_ediv
def i3 := @List.nodup_cons
def i4 := @Option.map_some
def i5 := @Option.map_none
def i6 := @List.mem_append
def i7 := @List.foldl_cons
def ja := @Nat.add_comm
def jb := @List.length_map
def jc := @List.mem_map
def jd := @Nat.mod_lt
def je := @Nat.eq_of_testBit_eq
def jf := @Nat.pow_succ
def jg := @Int.mul_le_mul_of_nonneg_right
def ji := @List.take_append_of_le_length
def jj := @List.drop_append_of_le_length
def jk := @Nat.add_mul
def jn := @Nat.sub_sub
def jo := @List.map_replicate
def jp := @Nat.eq_or_lt_of_le
def jq := @Bool.not_true
def jr := @Nat.eq_of_mul_eq_mul_right
def jt := @Int.tdiv_eq_ediv_of_nonneg
def ju := @List.size_toArray
def jv := @List.getElem?_set
def jw := @List.mem_of_find?_eq_some
def jx := @Nat.shiftRight_eq_div_pow
def jy := @Option.getD_some
def jz := @Array.getElem?_replicate
def j0 := @List.ext_getElem
def j1 := @List.map_map
def j2 := @List.take_append
def j3 := @Int.ediv_le_self
def j4 := @Nat.sub_self
def j5 := @Nat.shiftLeft_eq
def j6 := @Int.le_of_lt
def j7 := @Nat.succ_mul
def j8 := @List.all_nil
def ka := @List.filter_cons
def kb := @Int.natCast_mul
def kc := @Int.ediv_nonneg
def ke := @Nat.two_pow_pos
def kf := @Nat.testBit_and
def kg := @Nat.or_comm
def kh := @List.drop_zero
abbrev AA :=List Value
abbrev AB :=List Int
abbrev AC :=Option Addr
abbrev AD :=Option Nat
abbrev AE :=List Nat
abbrev AF :=List Operand
abbrev AG :=Array Edge
abbrev AH :=Value
abbrev AI :=World
abbrev AJ :=TypeId
abbrev AK :=Operand
abbrev AL :=Program
abbrev AM :=IntKind
theorem U.{u}{α:Sort u}{a:α}:a=a:=rfl
end Go
namespace Go.VV
open Go Go.RowKit
abbrev bE :=Nat->AH
def bE.set(e:bE)(d:Nat)(v:AH):bE:=λt=>bif Nat.beq t d then v else e t
def bE.put(e:bE):AD->AH->bE
 |some d,v=>e.set d v
 |none,_=>e
def ev(e:bE):AK->AH
 | .tmp t=>e t
 | .const v=>v
 | .global g=> .pointer (some ⟨g,0,none⟩)
 | .func f=> .func (.func f) #[] #[]
structure lI(n:Nat)(D:List Deferred)(e:bE)(a:Act):Prop where
 defers:a.defers=D
 size:a.tmps.size=n
 look:e=λt=>a.tmps.getD t undef
def lI.eval{n:Nat}{D:List Deferred}{e:bE}{a:Act}(h:lI n D e a):a.eval=ev e:=by
 funext x
 cases x<;>simp[Act.eval,ev,h.look]
def eQ(n:Nat):AD->Bool
 |some d=>Nat.blt d n
 |none=>true
def lI.put{n:Nat}{D:List Deferred}{e:bE}{a:Act}(h:lI n D e a){d:AD}(hd:eQ n d=true)(v:AH):lI n D (e.put d v) (a.put d v):=by
 cases d with
 |none=>exact h
 |some d=>
  have hlt:d<n:=by simpa[eQ] using hd
  refine⟨h.defers,by simp[Act.put,h.size],?_⟩
  funext t
  have hs:=h.size
  simp only[bE.put,bE.set,Act.put,h.look]
  by_cases ht:t=d
  ·subst ht
   simp[hs,hlt]
  ·have hb:Nat.beq t d=false:=by
    cases hx:Nat.beq t d
    ·rfl
    ·exact absurd (ci hx) ht
   simp[hb,gk (Ne.symm ht)]
abbrev aF :=List (Nat×Obj)
structure St(w0:AI)(ms:AE)(L:aF)(w:AI):Prop where
 os:w.os=w0.os
 tape:w.tape=w0.tape
 output:w.output=w0.output
 size:w0.heap.size<=w.heap.size
 block:∀k,k<w0.heap.size->k∉ms->w.heap[k]? =w0.heap[k]?
 nodup:(L.map (·.1)).Nodup
 own:∀x∈L,x.1∈ms\/w0.heap.size<=x.1
 holds:∀x∈L,w.heap[x.1]? =some x.2
def St.refl(w:AI):St w [] [] w:=⟨rfl,rfl,rfl,be _,λ_ _ _=>rfl,by simp,by simp,by simp⟩
def St.drew{w0 w:AI}{ms:AE}{L:aF}(h:St w0 ms L w):St w0 ms L {w with drawn:=w.drawn+1}:=
 ⟨h.os,h.tape,h.output,h.size,h.block,h.nodup,h.own,h.holds⟩
def St.lt{w0 w:AI}{ms:AE}{L:aF}(h:St w0 ms L w){x:Nat×Obj}(hx:x∈L):x.1<w.heap.size:=by
 have:=h.holds x hx
 by_cases hlt:x.1<w.heap.size
 ·exact hlt
 ·rw[fp (by omega)]at this;cases this
def St.sub{w0 w:AI}{ms:AE}{L L':aF}(h:St w0 ms L w)(hs:L'.Sublist L):St w0 ms L' w:=
 ⟨h.os,h.tape,h.output,h.size,h.block,(hs.map _).nodup h.nodup,λx hx=>h.own x (hs.subset hx),λx hx=>h.holds x (hs.subset hx)⟩
def St.perm{w0 w:AI}{ms:AE}{L L':aF}(h:St w0 ms L w)(hs:L.Perm L'):St w0 ms L' w:=
 ⟨h.os,h.tape,h.output,h.size,h.block,(hs.map _).nodup_iff.1 h.nodup,λx hx=>h.own x (hs.symm.subset hx),λx hx=>h.holds x (hs.symm.subset hx)⟩
def St.alloc{w0 w:AI}{ms:AE}{L:aF}(h:St w0 ms L w)(o:Obj):St w0 ms ((w.heap.size,o)::L) (w.alloc o):=by
 refine⟨h.os,h.tape,h.output,?_,?_,?_,?_,?_⟩
 ·have:=h.size;show _<=(w.heap.push o).size;simp;omega
 ·intro k hk hm
  show(w.heap.push o)[k]? =_
  have:=h.size
  rw[Array.getElem?_push,ae (by omega)]
  exact h.block k hk hm
 ·simp only[cq,i3]
  refine⟨λhm=>?_,h.nodup⟩
  obtain⟨x,hx,hxe⟩:=List.mem_map.1 hm
  have:=h.lt hx
  omega
 ·intro x hx
  rcases List.mem_cons.1 hx with rfl|hx
  ·exact .inr h.size
  ·exact h.own x hx
 ·intro x hx
  show(w.heap.push o)[x.1]? =_
  rcases List.mem_cons.1 hx with rfl|hx
  ·simp
  ·have:=h.lt hx
   rw[Array.getElem?_push,ae (by omega)]
   exact h.holds x hx
def St.turn{w0 w w':AI}{ms:AE}{L:aF}{b:Nat}{o o':Obj}(h:St w0 ms ((b,o)::L) w)
  (h1:w'.os=w.os) (h2:w'.tape=w.tape) (h3:w'.output=w.output) (h4:w'.heap.size=w.heap.size)
  (h5:∀k,k≠b->w'.heap[k]? =w.heap[k]?) (h6:w'.heap[b]? =some o'):St w0 ms ((b,o')::L) w':=by
 have hnd:=h.nodup
 simp only[cq,i3]at hnd
 refine⟨h1.trans h.os,h2.trans h.tape,h3.trans h.output,by rw[h4];exact h.size,?_,?_,?_,?_⟩
 ·intro k hk hm
  by_cases hkb:k=b
  ·subst hkb
   rcases h.own (k,o) (by simp)with h7|h7
   ·exact absurd h7 hm
   ·simp at h7;omega
  ·rw[h5 k hkb];exact h.block k hk hm
 ·simpa using hnd
 ·intro x hx
  rcases List.mem_cons.1 hx with rfl|hx
  ·exact h.own (b,o) (by simp)
  ·exact h.own x (by simp[hx])
 ·intro x hx
  rcases List.mem_cons.1 hx with rfl|hx
  ·exact h6
  ·have hne:x.1≠b:=λhe=>hnd.1 (he▸List.mem_map.2 ⟨x,hx,rfl⟩)
   rw[h5 _ hne]
   exact h.holds x (by simp[hx])
def St.old{w0 w:AI}{ms:AE}{L:aF}(h:St w0 ms L w){b:Nat}{o:Obj}(hb:w0.heap[b]? =some o)(hm:b∉ms):w.heap[b]? =some o:=by
 have hlt:b<w0.heap.size:=by
  by_cases hlt:b<w0.heap.size
  ·exact hlt
  ·rw[fp (by omega)]at hb;cases hb
 rw[h.block b hlt hm];exact hb
def St.call{w0 w w':AI}{ms ms2:AE}{F F' R:aF}(h:St w0 ms (F++R) w)(hms:∀b∈ms2,∃o,(b,o)∈F)(h':St w ms2 F' w'):St w0 ms (F'++R) w':=by
 have hsz:=h.size
 have key:∀b∈ms2,b∈ms\/w0.heap.size<=b:=λb hb=>by
  obtain⟨o,ho⟩:=hms b hb
  exact h.own (b,o) (by simp[ho])
 have hnd:=h.nodup
 rw[bz,dx]at hnd
 obtain⟨hF,hR,hFR⟩:=hnd
 have hRlt:∀x∈R,x.1<w.heap.size:=λx hx=>h.lt (by simp[hx])
 have hRm:∀x∈R,x.1∉ms2:=λx hx hm=>by
  obtain⟨o,ho⟩:=hms _ hm
  exact hFR _ (List.mem_map.2 ⟨_,ho,U⟩) _ (List.mem_map.2 ⟨x,hx,U⟩) U
 refine⟨h'.os.trans h.os,h'.tape.trans h.tape,h'.output.trans h.output,gr hsz h'.size,?_,?_,?_,?_⟩
 ·intro k hk hm
  by_cases hk2:k∈ms2
  ·rcases key k hk2 with h1|h1
   ·exact absurd h1 hm
   ·omega
  ·rw[h'.block k (by omega) hk2];exact h.block k hk hm
 ·rw[bz,dx]
  refine⟨h'.nodup,hR,?_⟩
  intro a ha b hb hab
  obtain⟨x,hx,rfl⟩:=List.mem_map.1 ha
  obtain⟨y,hy,rfl⟩:=List.mem_map.1 hb
  rcases h'.own x hx with h1|h1
  ·exact hRm y hy (hab▸h1)
  ·have:=hRlt y hy;omega
 ·intro x hx
  rcases List.mem_append.1 hx with hx|hx
  ·rcases h'.own x hx with h1|h1
   ·exact key _ h1
   ·exact .inr (by omega)
  ·exact h.own x (by simp[hx])
 ·intro x hx
  rcases List.mem_append.1 hx with hx|hx
  ·exact h'.holds x hx
  ·rw[h'.block x.1 (hRlt x hx) (hRm x hx)]
   exact h.holds x (by simp[hx])
structure fK where
 N:bE->aF->Prop
 R:bE->aF->Prop
 X:List (Nat×(bE->aF->Prop))
def pQ :List (Nat×(bE->aF->Prop))->Nat->Option (bE->aF->Prop)
 | [],_=>none
 |(i,K)::r,j=>bif Nat.beq i j then some K else pQ r j
def fK.at(k:fK):Exit->bE->aF->Prop
 | .normal,e,L=>k.N e L
 | .ret,e,L=>k.R e L
 | .exit id,e,L=>match pQ k.X (2*id)with
  |some K=>K e L
  |none=>False
 | .goto l,e,L=>match pQ k.X (2*l+1)with
  |some K=>K e L
  |none=>False
 |_,_,_=>False
def zE{X:List (Nat×(bE->aF->Prop))}{i j:Nat}{K:bE->aF->Prop}(h:i≠j):pQ ((i,K)::X) j=pQ X j:=by
 have hb:Nat.beq i j=false:=by
  cases hx:Nat.beq i j
  ·rfl
  ·exact absurd (ci hx) h
 simp only[pQ,hb,cond_false]
def Ki{X:List (Nat×(bE->aF->Prop))}{i:Nat}{K:bE->aF->Prop}:pQ ((i,K)::X) i=some K:=by
 have hb:Nat.beq i i=true:=Nat.beq_refl i
 simp only[pQ,hb,cond_true]
def Q(n:Nat)(D:List Deferred)(w0:AI)(ms:AE)(k:fK)(x:Exit)(a:Act)(w:AI):Prop:=
 ∃e L,lI n D e a/\St w0 ms L w/\k.at x e L
structure dJ where
 P:AL
 n:Nat
 w0:AI
 ms:AE
 r:AD:=none
 D:List Deferred:=[]
def Fr(r:AD):Fence:={fn:=λ_=>True,depth:=none,alive:=false,round:=r}
def C(Γ:dJ)(c:Code)(k:fK)(e:bE)(L:aF):Prop:=
 ∀a w,lI Γ.n Γ.D e a->St Γ.w0 Γ.ms L w->Code.wpIn (Fr Γ.r) 0 Γ.P c (Q Γ.n Γ.D Γ.w0 Γ.ms k) a w
def Q.mono{n:Nat}{D:List Deferred}{w0:AI}{ms:AE}{k k':fK}(h:∀x e L,k.at x e L->k'.at x e L){x:Exit}{a:Act}{w:AI}(q:Q n D w0 ms k x a w):Q n D w0 ms k' x a w:=
 let⟨e,L,h1,h2,h3⟩:=q
 ⟨e,L,h1,h2,h _ _ _ h3⟩
section rules
variable {Γ:dJ}{k:fK}{e:bE}{L:aF}
def F4{x y:Code}(h:C Γ x ⟨λe L=>C Γ y k e L,k.R,k.X⟩ e L):C Γ (.seq x y) k e L:=by
 intro a w ha hw
 refine wpIn_seq (wpIn_mono (h a w ha hw) ?_)
 rintro ex a' w' ⟨e',L',h1,h2,h3⟩
 cases ex<;>simp only[fK.at,Exit.then]at h3⊢
 case normal=>exact h3 a' w' h1 h2
 case exit id=>exact⟨e',L',h1,h2,h3⟩
 case goto l=>exact⟨e',L',h1,h2,h3⟩
 case ret=>exact⟨e',L',h1,h2,h3⟩
def aBw(h:k.N e L):C Γ .skip k e L:=λ_ _ ha hw=>wpIn_skip ⟨e,L,ha,hw,h⟩
def aKc(h:k.R e L):C Γ .ret k e L:=λ_ _ ha hw=>wpIn_ret ⟨e,L,ha,hw,h⟩
def aNF{id:Nat}{K:bE->aF->Prop}(hk:pQ k.X (2*id)=some K)(h:K e L):C Γ (.exit id) k e L:=
 λ_ _ ha hw=>wpIn_exit ⟨e,L,ha,hw,by simp only[fK.at,hk];exact h⟩
def aI2{l:Nat}{K:bE->aF->Prop}(hk:pQ k.X (2*l+1)=some K)(h:K e L):C Γ (.goto l) k e L:=
 λ_ _ ha hw=>wpIn_goto ⟨e,L,ha,hw,by simp only[fK.at,hk];exact h⟩
def aIb{l:Nat}(h:k.N e L):C Γ (.label l) k e L:=λ_ _ ha hw=>wpIn_label ⟨e,L,ha,hw,h⟩
def aKS{id:Nat}{c:Code}(h:C Γ c ⟨k.N,k.R,(2*id,k.N)::k.X⟩ e L):C Γ (.block id c) k e L:=by
 intro a w ha hw
 refine wpIn_block (wpIn_mono (h a w ha hw) ?_)
 rintro ex a' w' ⟨e',L',h1,h2,h3⟩
 cases ex<;>simp only[fK.at,Exit.inBlock]at h3⊢
 case normal=>exact⟨e',L',h1,h2,h3⟩
 case ret=>exact⟨e',L',h1,h2,h3⟩
 case goto l=>
  rw[zE (by omega)]at h3
  exact⟨e',L',h1,h2,h3⟩
 case exit id'=>
  by_cases hid:id'=id
  ·subst hid
   rw[Ki]at h3
   rw[ag rfl]
   exact⟨e',L',h1,h2,h3⟩
  ·rw[zE (by omega)]at h3
   rw[ae hid]
   exact⟨e',L',h1,h2,h3⟩
def Pc{c:AK}{x y:Code}{t:Bool}(hc:ev e c= .bool t)(h1:t=true->C Γ x k e L)(h2:t=false->C Γ y k e L):C Γ (.cond c x y) k e L:=by
 intro a w ha hw
 refine wpIn_cond_split (t:=t) (by rw[ha.eval];exact hc) (λht=>h1 ht a w ha hw) (λht=>h2 ht a w ha hw)
def aP0{c:AK}{x y:Code}(hc:ev e c= .bool true)(h1:C Γ x k e L):C Γ (.cond c x y) k e L:=Pc hc (λ_=>h1) (λh=>by cases h)
def aKb{c:AK}{x y:Code}(hc:ev e c= .bool false)(h1:C Γ y k e L):C Γ (.cond c x y) k e L:=Pc hc (λh=>by cases h) (λ_=>h1)
def W6{c:Code}{k':fK}(h:C Γ c k e L)(hk:∀x e L,k.at x e L->k'.at x e L):C Γ c k' e L:=
 λa w ha hw=>wpIn_mono (h a w ha hw) λ_ _ _ q=>q.mono hk
def kO{c:Code}{L':aF}(hs:∀w,St Γ.w0 Γ.ms L w->St Γ.w0 Γ.ms L' w)(h:C Γ c k e L'):C Γ c k e L:=
 λa w ha hw=>h a w ha (hs w hw)
def mix(M:AE)(vs:List (Nat×AH))(x e:bE):bE:=λt=>
 match vs.find? (λp=>Nat.beq p.1 t)with
 |some p=>p.2
 |none=>bif M.any (Nat.beq t)then x t else e t
def jF(M:AE)(e' e:bE):Prop:=∀t,M.any (Nat.beq t)=false->e' t=e t
def jF.refl(M:AE)(e:bE):jF M e e:=λ_ _=>rfl
def jF.set{M:AE}{e' e:bE}{d:Nat}{v:AH}(hd:M.any (Nat.beq d)=true)(h:jF M e' e):jF M (e'.set d v) e:=λt ht=>by
 have hb:Nat.beq t d=false:=by
  cases hx:Nat.beq t d
  ·rfl
  ·have:=ci hx;subst this;rw[ht]at hd;cases hd
 simp only[bE.set,hb,cond_false]
 exact h t ht
def jF.put{M:AE}{e' e:bE}{d:Nat}{v:AH}(hd:M.any (Nat.beq d)=true)(h:jF M e' e):jF M (e'.put (some d) v) e:=h.set hd
def jF.mix{M:AE}{vs:List (Nat×AH)}{x e:bE}(hv:vs.all (λp=>M.any (Nat.beq p.1))=true):jF M (mix M vs x e) e:=λt ht=>by
 have hf:vs.find? (λp=>Nat.beq p.1 t)=none:=by
  rw[List.find?_eq_none]
  intro p hp hb
  have h1:=(List.all_eq_true.1 hv) p hp
  have h2:=ci hb
  rw[h2]at h1;rw[ht]at h1;cases h1
 simp only[VV.mix,hf,ht,cond_false]
def oY(e:bE)(vs:List (Nat×AH)):Prop:=∀p∈vs,e p.1=p.2
def oY.nil{e:bE}:oY e []:=λ_ h=>by cases h
def oY.cons{e:bE}{t:Nat}{v:AH}{vs:List (Nat×AH)}(h:e t=v)(hs:oY e vs):oY e ((t,v)::vs):=λp hp=>by
 rcases List.mem_cons.1 hp with rfl|hp
 ·exact h
 ·exact hs p hp
def Gb{M:AE}{vs:List (Nat×AH)}{e' e:bE}(hs:oY e' vs)(ha:jF M e' e):e'=mix M vs e' e:=by
 funext t
 unfold mix
 split
 ·rename_i p hp
  have h1:=jw hp
  have h2:=List.find?_some hp
  have h3:=ci h2
  rw[<-h3];exact hs p h1
 ·cases hx:M.any (Nat.beq t)
  ·simp only[cond_false];exact ha t hx
  ·simp only[cond_true]
def Om{p:Nat->Prop}(h:∃m,p m):∃m,p m/\∀k,k<m->¬p k:=by
 obtain⟨m,hm⟩:=h
 induction m using Nat.strongRecOn with
 |_ m ih=>
  by_cases hx:∃k,k<m/\p k
  ·obtain⟨k,hk,hp⟩:=hx
   exact ih k hk hp
  ·exact⟨m,hm,λk hk hp=>hx ⟨k,hk,hp⟩⟩
def aQW{F:Fence}{n:Nat}{P:AL}{ι:Type}{c:Code}{R:Exit->Act->AI->Prop}(I:ι->Act->AI->Prop)(μ:ι->Nat){a:Act}{w:AI}(i0:ι)(h0:I i0 a w)
  (round:∀i a w,I i a w->c.wpIn F n P (Exit.then (λa' w'=>∃j,I j a' w'/\μ j<μ i) R) a w):(Code.loop c).wpIn F n P R a w:=by
 classical
 let p:Act->AI->Nat->Prop:=λa w m=>∃i,I i a w/\μ i=m
 let f:Act->AI->Nat:=λa w=>if h:∃m,p a w m then Classical.choose (Om h)else 0
 have hf:∀a w,(∃m,p a w m)->p a w (f a w)/\∀k,k<f a w->¬p a w k:=λa w h=>by
  have:=Classical.choose_spec (Om h)
  simp only[f,dif_pos h]
  exact this
 refine wpIn_loop (λa w=>∃i,I i a w) f ⟨i0,h0⟩ ?_
 intro a w hI
 obtain⟨i1,hi1⟩:=hI
 obtain⟨⟨i,hi,hm⟩,_⟩:=hf a w ⟨_,i1,hi1,rfl⟩
 refine wpIn_mono (round i a w hi) ?_
 intro ex a' w' h
 cases ex<;>simp only[Exit.then]at h⊢
 case normal=>
  obtain⟨j,hj,hlt⟩:=h
  refine⟨⟨j,hj⟩,?_⟩
  have h2:=(hf a' w' ⟨_,j,hj,rfl⟩).2
  rcases du (f a' w') (f a w)with h3|h3
  ·exact h3
  ·exact absurd ⟨j,hj,U⟩ (h2 (μ j) (by omega))
 all_goals exact h
def dK{σ:Type}{c:Code}(M:AE)(vs:σ->List (Nat×AH))(H:σ->aF)(J:σ->Prop)(μ:σ->Nat)(s0:σ)
  (h0:J s0) (hv:oY e (vs s0)) (hh:∀w,St Γ.w0 Γ.ms L w->St Γ.w0 Γ.ms (H s0) w)
  (round:∀s x,J s->C Γ c ⟨λe' L'=>∃s',J s'/\μ s'<μ s/\oY e' (vs s')/\jF M e' e/\(∀w,St Γ.w0 Γ.ms L' w->St Γ.w0 Γ.ms (H s') w),k.R,k.X⟩ (mix M (vs s) x e) (H s)):
  C Γ (.loop c) k e L:=by
 intro a w ha hw
 refine aQW (ι:=σ) (λs a w=>J s/\∃x,lI Γ.n Γ.D (mix M (vs s) x e) a/\St Γ.w0 Γ.ms (H s) w) μ s0
  ⟨h0,e,by rw[<-Gb hv (jF.refl M e)];exact ha,hh w hw⟩ ?_
 rintro s a w ⟨hJ,x,ha,hw⟩
 refine wpIn_mono (round s x hJ a w ha hw) ?_
 rintro ex a' w' ⟨e',L',h1,h2,h3⟩
 cases ex<;>simp only[fK.at,Exit.then]at h3⊢
 case normal=>
  obtain⟨s',hJ',hlt,hs,hA,hH⟩:=h3
  exact⟨s',⟨hJ',e',by rw[<-Gb hs hA];exact h1,hH w' h2⟩,hlt⟩
 case exit id=>exact⟨e',L',h1,h2,h3⟩
 case goto l=>exact⟨e',L',h1,h2,h3⟩
 case ret=>exact⟨e',L',h1,h2,h3⟩
def mJ{σ:Type}{x y:Code}(M:AE)(vs:σ->List (Nat×AH))(H:σ->aF)(J:σ->Prop)
  (h1:C Γ x ⟨λe' L'=>∃s,J s/\oY e' (vs s)/\jF M e' e/\(∀w,St Γ.w0 Γ.ms L' w->St Γ.w0 Γ.ms (H s) w),k.R,k.X⟩ e L)
  (h2:∀s x,J s->C Γ y k (mix M (vs s) x e) (H s)):C Γ (.seq x y) k e L:=by
 refine F4 (λa w ha hw=>wpIn_mono (h1 a w ha hw) ?_)
 rintro ex a' w' ⟨e',L',g1,g2,g3⟩
 cases ex<;>simp only[fK.at]at g3⊢
 case normal=>
  obtain⟨s,hJ,hs,hA,hH⟩:=g3
  refine⟨e',L',g1,g2,?_⟩
  simp only[fK.at]
  intro a2 w2 ha2 hw2
  have:=Gb hs hA
  exact h2 s e' hJ a2 w2 (this▸ha2) (hH _ hw2)
 case exit id=>exact⟨e',L',g1,g2,g3⟩
 case goto l=>exact⟨e',L',g1,g2,g3⟩
 case ret=>exact⟨e',L',g1,g2,g3⟩
end rules
def eO{α:Type}(P:AL):Sem α->Option α
 | .pure a=>some a
 | .program k=>eO P (k P)
 |_=>none
def I7{α:Type}{P:AL}{s:Sem α}{a:α}(h:eO P s=some a)(w:AI):s.run P w= .ok a w:=by
 induction s with
 |pure b=>simp only[eO]at h;cases h;rfl
 |program k ih=>simp only[eO]at h;simp only[Sem.run];exact ih P h
 |_=>simp[eO]at h
def bA :AH->Option AH
 | .bool b=>some (.bool b)
 | .int k n=>some (.int k n)
 | .float k n=>some (.float k n)
 | .complex k a b=>some (.complex k a b)
 | .string s=>some (.string s)
 | .pointer none=>some (.pointer none)
 | .pointer (some ⟨b,o,s⟩)=>some (.pointer (some ⟨b,o,s⟩))
 | .slice a n c=>some (.slice a n c)
 | .map r=>some (.map r)
 | .chan r=>some (.chan r)
 | .func f a b=>some (.func f a b)
 | .nilFunc=>some .nilFunc
 | .iface t v=>some (.iface t v)
 | .nilIface=>some .nilIface
 | .agg cs=>some (.agg cs)
 | .tuple vs=>some (.tuple vs)
def bM{v u:AH}(h:bA v=some u):v=u:=by
 cases v with
 |pointer a=>cases a with
  |none=>exact aj h
  |some a=>cases a;exact aj h
 |_=>exact aj h
def dL(P:AL)(e:bE)(o:Oper):Option AH:=
 match eO P (execOp (ev e) o)with
 |some (.value v)=>bA v
 |some .skip=>some undef
 |_=>none
def aA6{P:AL}{e:bE}{o:Oper}{v:AH}(h:dL P e o=some v)(w:AI):
  (execOp (ev e) o).run P w= .ok (.value v) w\/((execOp (ev e) o).run P w= .ok .skip w/\v=undef):=by
 unfold dL at h
 split at h
 ·rename_i u hu
  rw[<-bM h]
  exact .inl (I7 hu w)
 ·rename_i hu
  cases h
  exact .inr ⟨I7 hu w,U⟩
 ·cases h
def nK(P:AL)(o:Oper)(e:bE)(w:AI)(K:AH->AI->Prop):Prop:=
 match (execOp (ev e) o).run P w with
 | .ok (.value v) w'=>K v w'
 | .ok .skip w'=>K undef w'
 | .ok (.enter f args) w'=>Calls P f args w' (λex w''=>∃v,ex= .returned v/\K v w'')
 |_=>False
def gP{P:AL}{o:Oper}{e:bE}{w w':AI}{v:AH}{K:AH->AI->Prop}(h:(execOp (ev e) o).run P w= .ok (.value v) w')(k:K v w'):nK P o e w K:=by
 simp only[nK,h];exact k
def Zr{P:AL}{o:Oper}{e:bE}{w w':AI}{K:AH->AI->Prop}(h:(execOp (ev e) o).run P w= .ok .skip w')(k:K undef w'):nK P o e w K:=by
 simp only[nK,h];exact k
def A6{P:AL}{o:Oper}{e:bE}{w w':AI}{f:FuncId}{args:Array AH}{K:AH->AI->Prop}(h:(execOp (ev e) o).run P w= .ok (.enter f args) w')
  (k:Calls P f args w' (λex w''=>∃v,ex= .returned v/\K v w'')):nK P o e w K:=by
 simp only[nK,h];exact k
def aPj{P:AL}{o:Oper}{e:bE}{w:AI}{v:AH}{K:AH->AI->Prop}(h:dL P e o=some v)(k:K v w):nK P o e w K:=by
 rcases aA6 h w with h1|⟨h1,h2⟩
 ·exact gP h1 k
 ·subst h2;exact Zr h1 k
def xL{P:AL}{o:Oper}{e:bE}{w:AI}{K K':AH->AI->Prop}(h:nK P o e w K)(hk:∀v w',K v w'->K' v w'):nK P o e w K':=by
 unfold nK at*
 split at h
 ·exact hk _ _ h
 ·exact hk _ _ h
 ·exact h.mono λex w'' ⟨v,h1,h2⟩=>⟨v,h1,hk _ _ h2⟩
 ·exact h.elim
def aOy{P:AL}{o:Oper}{e:bE}{w:AI}{K:AH->AI->Prop}(h:nK P o e w K)(c:Call):o.op≠ .defer c:=by
 intro ho
 have h1:execOp (ev e) o=(do pure (.defer (<-resolve (ev e) c o.type))):=by simp only[execOp,ho]
 unfold nK at h
 rw[h1,ay]at h
 cases hr:(resolve (ev e) c o.type).run P w with
 |ok d w'=>rw[hr]at h;exact h.elim
 |halt x w'=>rw[hr]at h;exact h.elim
def F8{r:AD}{n:Nat}{P:AL}{f:FuncId}{args:Array AH}{w:AI}{R:Ending->AI->Prop}(h:Calls P f args w R):CallsIn (Fr r) n P f args w R:=
 (callsIn_wide (n:=n)).2 h
def aG5{P:AL}{r:AD}{n:Nat}{D:List Deferred}{o:Oper}{e:bE}{a:Act}{w:AI}{K:AH->AI->Prop}{K':Act->AI->Prop}{R:Exit->Act->AI->Prop}
  (ha:lI n D e a) (h:nK P o e w K) (hk:∀v w',K v w'->K' (a.put o.dst v) w'):o.wpIn (Fr r) 0 P a w K' R:=by
 refine⟨λ_ _=>trivial,?_⟩
 rw[Oper.semAt_eq _ _ _ (λc=>aOy h c),ha.eval]
 unfold nK at h
 split at h
 ·rename_i v w' hr;rw[hr];exact hk _ _ h
 ·rename_i w' hr;rw[hr];exact hk _ _ h
 ·rename_i f args w' hr
  rw[hr]
  refine⟨λh=>(by cases h),F8 (h.mono ?_)⟩
  rintro ex w'' ⟨v,rfl,hv⟩
  exact hk _ _ hv
 ·exact h.elim
def Oper.wp_in {P:AL} {r:AD} {o:Oper} {a:Act} {w:AI} {K:Act->AI->Prop} {R:Exit->Act->AI->Prop} (ho:∀c,o.op≠ .defer c)
    (h:o.wp P a w K R):o.wpIn (Fr r) 0 P a w K R:=by
  refine⟨λ_ _=>trivial,?_⟩
  rw[Oper.semAt_eq _ _ _ ho]
  unfold Oper.wp at h
  generalize (execOp a.eval o).run P w=q at h⊢
  cases q with
  | ok x w'=>
    cases x<;>simp only[Oper.upon]at h<;>
      first
        |exact h
        |exact⟨λh=>(by cases h),F8 h⟩
        |exact h.elim
        | (refine⟨λh=>(by cases h),λc cs _=>?_⟩
           obtain⟨v,w2,h1,h2⟩:=h c cs
           exact⟨v,w2,h1,stepsIn_wide.2 h2⟩)
  |halt x w'=>cases x<;>simp only[Oper.upon]at h<;>first|exact h|exact h.elim
def Eb(o:Oper):Bool:=match o.op with
 | .defer _=>false
 |_=>true
def aQo{o:Oper}(h:Eb o=true)(c:Call):o.op≠ .defer c:=by
 intro ho;simp only[Eb,ho]at h;cases h
def aKn{P:AL}{r:AD}{ops:Array Oper}{i:Nat}{a:Act}{w:AI}{K:Act->AI->Prop}{R:Exit->Act->AI->Prop}
  (hd:ops.all Eb=true) (hL:¬LetsOut R) (h:wpOp P ops R i K a w):wpOpIn (Fr r) 0 P ops R i K a w:=by
 unfold wpOp at h
 unfold wpOpIn
 cases ho:ops[i]? with
 |none=>rw[ho]at h;exact h
 |some o=>
  rw[ho]at h
  simp only at h⊢
  have h1:Eb o=true:=Array.all_eq_true'.1 hd o (Array.mem_of_getElem? ho)
  split
  ·rename_i hw
   rw[ag hw]at h
   rcases h with h|h
   ·exact Oper.wp_in (aQo h1) h
   ·exact absurd h.2 hL
  ·rename_i hw
   rw[ae hw]at h
   exact⟨λ_ _=>trivial,h⟩
def aD5{P:AL}{r:AD}{md:Region.Mode}{ops:Array Oper}{R:Exit->Act->AI->Prop}(hd:ops.all Eb=true)(hL:¬LetsOut R):
  ∀(fuel:Nat) (listed:Array Bool) (a:Act) (w:AI),wpAny P md ops R fuel listed a w->wpAnyIn (Fr r) 0 P md ops R fuel listed a w
 |0,_,_,_,h=>h
 |fuel+1,_,_,_,h=>⟨h.1,λi hi=>wpOpIn_mono (λa' w' h'=>aD5 hd hL fuel _ a' w' h') (aKn hd hL (h.2 i hi))⟩
def Q.noOut{n:Nat}{D:List Deferred}{w0:AI}{ms:AE}{k:fK}:¬LetsOut (Q n D w0 ms k):=by
 rintro⟨_,_,_,_,_,_,h⟩
 exact h
def aQ7{P:AL}{n:Nat}{D:List Deferred}{o:Oper}{e:bE}{a:Act}{w:AI}{K:AH->AI->Prop}{K':Act->AI->Prop}{R:Exit->Act->AI->Prop}
  (ha:lI n D e a) (h:nK P o e w K) (hk:∀v w',K v w'->K' (a.put o.dst v) w'):o.wp P a w K' R:=by
 unfold Oper.wp
 rw[ha.eval]
 unfold nK at h
 split at h
 ·rename_i v w' hr;rw[hr];exact hk _ _ h
 ·rename_i w' hr;rw[hr];exact hk _ _ h
 ·rename_i f args w' hr
  rw[hr]
  refine h.mono ?_
  rintro ex w'' ⟨v,rfl,hv⟩
  exact hk _ _ hv
 ·exact h.elim
def eS(ops:List Oper)(e:bE)(o:Oper):Bool:=
 match o.guard with
 |none=>true
 |some (j,want)=>match (ops[j]?).bind (·.dst)with
  |some d=>match e d with
   | .bool b=>b==want
   |_=>false
  |none=>false
def Dc{n:Nat}{D:List Deferred}{ops:List Oper}{e:bE}{a:Act}{o:Oper}(ha:lI n D e a):Region.wanted o (yielded ops.toArray a.tmps)=eS ops e o:=by
 unfold Region.wanted eS yielded
 cases hg:o.guard with
 |none=>rfl
 |some p=>
  obtain⟨j,want⟩:=p
  simp only[dr]
  cases hd:(ops[j]?).bind (·.dst)with
  |none=>simp
  |some d=>
   simp only[Option.bind_some]
   have hl:e d=a.tmps.getD d undef:=by rw[ha.look]
   rw[hl]
   rw[ia]
   cases hx:a.tmps[d]? with
   |none=>simp[undef]
   |some v=>
    simp only[jy]
    cases v<;>simp
def L1(Γ:dJ)(ops l:List Oper)(k:fK)(e:bE)(H:aF):Prop:=
 ∀a w,lI Γ.n Γ.D e a->St Γ.w0 Γ.ms H w->wpListIn (Fr Γ.r) 0 Γ.P ops.toArray (Q Γ.n Γ.D Γ.w0 Γ.ms k) l a w
section rules
variable {Γ:dJ}{k:fK}{e:bE}{H:aF}{ops rest:List Oper}{o:Oper}
def aJK{id:Nat}{l:List Oper}(h:L1 Γ l l k e H):C Γ (.region id l.toArray false) k e H:=
 λa w ha hw=>wpIn_region_lit (h a w ha hw)
def aMz(h:k.N e H):L1 Γ ops [] k e H:=λ_ _ ha hw=>wpListIn_nil ⟨e,H,ha,hw,h⟩
def Ii{K:AH->aF->Prop}(hg:eS ops e o=true)(hd:eQ Γ.n o.dst=true)
  (h:∀w,St Γ.w0 Γ.ms H w->nK Γ.P o e w (λv w'=>∃H',St Γ.w0 Γ.ms H' w'/\K v H'))
  (hk:∀v H',K v H'->L1 Γ ops rest k (e.put o.dst v) H'):L1 Γ ops (o::rest) k e H:=by
 intro a w ha hw
 unfold wpListIn
 rw[Dc ha,ag hg]
 exact(aG5 ha (h w hw) λv w' ⟨H',h1,h2⟩=>hk v H' h2 _ _ (ha.put hd v) h1)
def E5{v:AH}(hl:dL Γ.P e o=some v)(hg:eS ops e o=true)(hd:eQ Γ.n o.dst=true)
  (h:L1 Γ ops rest k (e.put o.dst v) H):L1 Γ ops (o::rest) k e H:=
 Ii (K:=λu H'=>u=v/\H'=H) hg hd (λ_ hw=>aPj hl ⟨H,hw,rfl,rfl⟩) (by rintro _ _ ⟨rfl,rfl⟩;exact h)
def aOe{b:Bool}(hl:dL Γ.P e o=some (.bool b))(hg:eS ops e o=true)(hd:eQ Γ.n o.dst=true)
  (ht:b=true->L1 Γ ops rest k (e.put o.dst (.bool true)) H) (hf:b=false->L1 Γ ops rest k (e.put o.dst (.bool false)) H):L1 Γ ops (o::rest) k e H:=by
 cases b
 ·exact E5 hl hg hd (hf U)
 ·exact E5 hl hg hd (ht U)
def aLd(hg:eS ops e o=false)(hd:eQ Γ.n o.dst=true)
  (h:L1 Γ ops rest k (e.put o.dst undef) H):L1 Γ ops (o::rest) k e H:=by
 intro a w ha hw
 unfold wpListIn
 rw[Dc ha,ae (by rw[hg];simp)]
 exact⟨λ_ _=>trivial,h _ _ (ha.put hd _) hw⟩
end rules
def lA(e:bE):AF->Option (List AH)
 | []=>some []
 |x::r=>match bA (ev e x),lA e r with
  |some v,some vs=>some (v::vs)
  |_,_=>none
def Dj{e:bE}:∀{l:AF} {vs:AA},lA e l=some vs->l.map (ev e)=vs
 | [],_,h=>by cases h;rfl
 |x::r,vs,h=>by
  simp only[lA]at h
  split at h
  ·rename_i v us h1 h2
   cases h
   simp only[cq,bM h1,Dj h2]
  ·cases h
def iW(P:AL)(f:Nat):Bool:=
 match P.funcs[f]? with
 |some fn=> !(fn.name== "runtime.NumGoroutine")&& !fn.body.isNone
 |none=>false
def aM3{P:AL}{e:bE}{f:Nat}{l:AF}{ts:Array AJ}{d:AD}{t:AJ}{pos:String}{af:AG}{g:Option (Nat×Bool)}
  (hc:iW P f=true) (w:AI):
  (execOp (ev e) ⟨d,.call ⟨.value (.func f),l.toArray,ts⟩,t,pos,af,g⟩).run P w= .ok (.enter f (l.map (ev e)).toArray) w:=by
 unfold iW at hc
 split at hc
 ·rename_i fn hf
  simp only[ax,ew]at hc
  obtain⟨h1,h2⟩:=hc
  have hs:(program:Sem AL)= .program .pure:=rfl
  have h3:¬fn.name= "runtime.NumGoroutine" :=by simpa using h1
  have h4:¬fn.body=none:=by
   intro hx;rw[hx]at h2;cases h2
  simp[execOp,resolve,Deferred.ofValue,ev,invoke,callFunc,bind,Sem.bind,Sem.run,hf,h3,h4,pure,hs]
 ·cases hc
def aG(P:AL)(f:Nat)(args:AA)(w:AI)(ms:AE)(R:AH->aF->Prop):Prop:=
 Calls P f args.toArray w (λex w'=>∃v H,ex= .returned v/\St w ms H w'/\R v H)
def aG.mono{P:AL}{f:Nat}{args:AA}{w:AI}{ms:AE}{R R':AH->aF->Prop}(h:aG P f args w ms R)(hr:∀v H,R v H->R' v H):aG P f args w ms R':=
 Calls.mono h λ_ _ ⟨v,H,h1,h2,h3⟩=>⟨v,H,h1,h2,hr _ _ h3⟩
section rules
variable {Γ:dJ}{k:fK}{e:bE}{ops rest:List Oper}
 {d:AD} {t:AJ} {pos:String} {af:AG} {g:Option (Nat×Bool)} {f:Nat} {l:AF} {ts:Array AJ}
def aDc{F G:aF}{vs:AA}{w:AI}(ms2:AE)(hc:iW Γ.P f=true)(hv:lA e l=some vs){R:AH->aF->Prop}
  (hw:St Γ.w0 Γ.ms (F++G) w) (hms:∀b∈ms2,∃o,(b,o)∈F) (hf:aG Γ.P f vs w ms2 R) {K:AH->AI->Prop}
  (hk:∀v H' w',R v H'->St w ms2 H' w'->St Γ.w0 Γ.ms (H'++G) w'->K v w'):
  nK Γ.P ⟨d,.call ⟨.value (.func f),l.toArray,ts⟩,t,pos,af,g⟩ e w K:=by
 refine A6 (aM3 hc w) ?_
 rw[Dj hv]
 refine Calls.mono hf ?_
 rintro ex w' ⟨v,H',rfl,h1,h2⟩
 exact⟨v,U,hk v H' w' h2 h1 (hw.call hms h1)⟩
end rules
def Et(args:AA):bE:=λt=>args.getD t undef
def vW(rs:List ResultVar)(e:bE):Sem AH:=do
 let vs <-rs.toArray.mapM fun
  | .tmp t=>pure (e t)
  | .cell a t=>do loadVar t (<-asAddr (e a))
 pure (if h:vs.size=1 then vs[0]else .tuple vs)
def kS(P:AL)(rs:List ResultVar)(e:bE)(w:AI)(v:AH):Prop:=(vW rs e).run P w= .ok v w
def Jw{P:AL}{t:Nat}{e:bE}{w:AI}{v:AH}(h:e t=v):kS P [.tmp t] e w v:=by
 simp[kS,vW,h,go_sem]
def pJ{P:AL}{e:bE}{w:AI}:kS P [] e w (.tuple #[]):=by
 simp[kS,vW,go_sem]
def nJ{P:AL}{t u:Nat}{e:bE}{w:AI}{v1 v2:AH}(h1:e t=v1)(h2:e u=v2):kS P [.tmp t,.tmp u] e w (.tuple #[v1,v2]):=by
 simp[kS,vW,h1,h2,go_sem]
def aFu{P:AL}{t u s:Nat}{e:bE}{w:AI}{v1 v2 v3:AH}(h1:e t=v1)(h2:e u=v2)(h3:e s=v3):kS P [.tmp t,.tmp u,.tmp s] e w (.tuple #[v1,v2,v3]):=by
 simp[kS,vW,h1,h2,h3,go_sem]
def rW(Γ:dJ)(rs:List ResultVar)(R:AH->aF->Prop)(e:bE)(H:aF):Prop:=
 ∀w,St Γ.w0 Γ.ms H w->∃v H',kS Γ.P rs e w v/\St Γ.w0 Γ.ms H' w/\R v H'
def lN{Γ:dJ}{rs:List ResultVar}{R:AH->aF->Prop}{e:bE}{H H':aF}{v:AH}(hr:∀w,St Γ.w0 Γ.ms H w->kS Γ.P rs e w v)
  (hh:∀w,St Γ.w0 Γ.ms H w->St Γ.w0 Γ.ms H' w) (h:R v H'):rW Γ rs R e H:=λw hw=>⟨v,H',hr w hw,hh w hw,h⟩
def Pj(Γ:dJ)(rs:List ResultVar)(R:AH->aF->Prop):fK:=⟨rW Γ rs R,rW Γ rs R,[]⟩
def Xt{fn:Func}{n:Nat}{D:List Deferred}{e:bE}{a:Act}(ha:lI n D e a):results fn a.tmps=vW fn.results.toList e:=by
 unfold results vW
 simp only[Array.toArray_toList]
 have:∀t,a.tmps.getD t undef=e t:=λt=>by rw[ha.look]
 simp only[this]
 rfl
def T5{n:Nat}{args:AA}(hn:args.length<=n):lI n [] (Et args) {tmps:=args.toArray++Array.replicate (n-args.toArray.size) undef,defers:=[]}:=by
 refine⟨U,by simp;omega,?_⟩
 funext t
 simp only[Et,ia,da]
 by_cases h:t<args.length
 ·rw[Array.getElem?_append_left (by simpa using h)]
  simp
 ·rw[Array.getElem?_append_right (by simpa using h),jz,d7 (by omega)]
  split<;>rfl
def yM{P:AL}{f:Nat}{fn:Func}{c:Code}{args:AA}{w:AI}{ms:AE}{R:AH->aF->Prop}{n:Nat}{H:aF}
  (hf:P.funcs[f]? =some fn) (hb:fn.body=some c) (hn:fn.ntmps=n) (hl:Nat.ble args.length n=true) (hH:St w ms H w)
  (h:C ⟨P,n,w,ms,none,[]⟩ c (Pj ⟨P,n,w,ms,none,[]⟩ fn.results.toList R) (Et args) H):aG P f args w ms R:=by
 subst hn
 have hl':args.length<=fn.ntmps:=ah hl
 refine(callsIn_wide (n:=0)).1 (callsIn_of_wp hf hb trivial (wpIn_mono (h _ w (T5 hl') hH) ?_))
 rintro ex a' w' ⟨e',L',h1,h2,h3⟩
 have fin:∀v H',kS P fn.results.toList e' w' v->St w ms H' w'->R v H'->a'.defers=[]/\∃v,(results fn a'.tmps).run P w'= .ok v w'/\∃v' H,Ending.returned v= .returned v'/\St w ms H w'/\R v' H:=
  λv H' g1 g2 g3=>⟨h1.defers,v,by rw[Xt h1];exact g1,v,H',rfl,g2,g3⟩
 cases ex<;>simp only[fK.at,Pj,rW,pQ]at h3
 case normal=>obtain⟨v,H',g1,g2,g3⟩:=h3 w' h2;exact fin v H' g1 g2 g3
 case ret=>obtain⟨v,H',g1,g2,g3⟩:=h3 w' h2;exact fin v H' g1 g2 g3
section
variable {P:AL}{ops:Array Oper}{R:Exit->Act->AI->Prop}{md:Region.Mode}{S:AI->Prop}{need:Nat->Bool}
def Ek(P:AL)(md:Region.Mode)(ops:Array Oper)(R:Exit->Act->AI->Prop)(S:AI->Prop)(need:Nat->Bool):Nat->Array Bool->Act->AI->Prop
 |0,listed,a,w=>Region.ready md ops listed=[]/\R .normal a w
 |fuel+1,listed,a,w=>
  (Region.ready md ops listed=[]->R .normal a w)/\
  ∀i∈Region.ready md ops listed,wpOp P ops R i (λa' w'=>(need i=true->S w->S w')/\Ek P md ops R S need fuel (listed.setIfInBounds i true) a' w') a w
def aFO :∀(fuel:Nat) (listed:Array Bool) (a:Act) (w:AI),Ek P md ops R S need fuel listed a w->wpAny P md ops R fuel listed a w
 |0,_,_,_,h=>h
 |fuel+1,_,_,_,h=>⟨h.1,λi hi=>wpOp_mono (λa' w' h'=>aFO fuel _ a' w' h'.2) (h.2 i hi)⟩
def yS(md:Region.Mode)(ops:Array Oper)(listed:Array Bool):Prop:=
 ∀j oj,ops[j]? =some oj->listed.getD j false=true->∀e∈oj.after,Region.binds md e=true->listed.getD e.on false=true
def yS.add{listed:Array Bool}(h:yS md ops listed){i:Nat}(hi:i∈Region.ready md ops listed):yS md ops (listed.setIfInBounds i true):=by
 intro j oj hj hl e he hb
 by_cases hji:j=i
 ·subst hji
  obtain⟨_,oj',hoj',hall⟩:=mem_ready.1 hi
  rw[hj]at hoj'
  cases hoj'
  exact getD_set_true (hall e he hb)
 ·rw[getD_set_ne false (Ne.symm hji)]at hl
  exact getD_set_true (h j oj hj hl e he hb)
def yS.start(n:Nat):yS md ops (Array.replicate n false):=by
 intro j oj _ hl
 exfalso
 rw[ia,jz]at hl
 split at hl<;>simp at hl
def qS(md:Region.Mode)(ops:Array Oper)(i:Nat):Nat->Nat->Bool
 |0,_=>false
 |fuel+1,j=>match ops[j]? with
  |some oj=>oj.after.any λe=>Region.binds md e&&(e.on==i||qS md ops i fuel e.on)
  |none=>false
def aBo{listed:Array Bool}{i:Nat}(hc:yS md ops listed):∀(fuel j:Nat),qS md ops i fuel j=true->(∀oj,ops[j]? =some oj->∀e∈oj.after,Region.binds md e=true->listed.getD e.on false=true)->listed.getD i false=true
 |0,_,h,_=>by simp[qS]at h
 |fuel+1,j,h,hd=>by
  simp only[qS]at h
  split at h
  ·rename_i oj hoj
   obtain⟨e,he,hb⟩:=Array.any_eq_true'.1 h
   simp only[ax,fm,cj]at hb
   have h1:=hd oj hoj e he hb.1
   rcases hb.2 with h2|h2
   ·rw[<-h2];exact h1
   ·exact aBo hc fuel e.on h2 (λo' ho'=>hc e.on o' ho' h1)
  ·cases h
def aJY(ld:Bool){i:Nat}{oi:Oper}{v:AH}(hi:ops[i]? =some oi)(hsel:∀(j:Nat) (o:Oper) cs b,ops[j]? =some o->o.op≠ .select cs b)
  (hR:∀c a w,R (.panic c) (a.put oi.dst v) w->R (.panic c) a w):
  ∀(fuel:Nat) (listed:Array Bool) (a:Act) (w:AI),
   (∀j oj,ops[j]? =some oj->j≠i->listed.getD j true=false->(∀e∈oj.after,Region.binds md e=true->e.on≠i)->oi.apart ops oj=true)->
   (ld=true->∀j oj,ops[j]? =some oj->j≠i->listed.getD j true=false->qS md ops i ops.size j=false->need j=true)->yS md ops listed->
   i∈Region.ready md ops listed->YieldsIf P ops (λw=>ld=true->S w) oi v a->(ld=true->S w)->
   Ek P md ops R S need fuel (listed.setIfInBounds i true) (a.put oi.dst v) w->Ek P md ops R S need (fuel+1) listed a w:=by
 intro fuel
 induction fuel with
 |zero=>
  intro listed a w _ _ _ hr hy hS H
  refine⟨λh=>(by rw[h]at hr;cases hr),λj hj=>?_⟩
  by_cases hji:j=i
  ·subst hji;exact hy.wpOp hi hS ⟨λ_ h=>h,H⟩
  ·have:=ready_mono hj hji
   rw[H.1]at this
   cases this
 |succ fuel ih=>
  intro listed a w hfree hkeep hcl hr hy hS H
  refine⟨λh=>(by rw[h]at hr;cases hr),λj hj=>?_⟩
  by_cases hji:j=i
  ·subst hji;exact hy.wpOp hi hS ⟨λ_ h=>h,H⟩
  ·have h1:=H.2 j (ready_mono hj hji)
   obtain⟨hjun,oj,hoj,hall⟩:=mem_ready.1 hj
   have hnot:∀e∈oj.after,Region.binds md e=true->e.on≠i:=λe he hb heq=>by
    have h1:=hall e he hb
    have h0:=(mem_ready.1 hr).1
    rw[heq]at h1
    rcases du i listed.size with h'|h'
    ·simp[h']at h0 h1;rw[h0]at h1;cases h1
    ·simp[fp h']at h1
   have hap:=hfree j oj hoj hji hjun hnot
   have hneed:ld=true->need j=true:=λhld=>by
    refine hkeep hld j oj hoj hji hjun ?_
    cases hx:qS md ops i ops.size j
    ·rfl
    ·exfalso
     have h1:=aBo hcl ops.size j hx (λo' ho'=>by rw[hoj]at ho';cases ho';exact hall)
     have h0:=(mem_ready.1 hr).1
     rcases du i listed.size with h'|h'
     ·simp[h']at h0 h1;rw[h0]at h1;cases h1
     ·simp[fp h']at h1
   have h2:=wpOp_putIf hoj hap (λcs b=>hsel i oi cs b hi) (λcs b=>hsel j oj cs b hoj) hR hy h1
   have hfree':∀k ok,ops[k]? =some ok->k≠i->(listed.setIfInBounds j true).getD k true=false->
     (∀e∈ok.after,Region.binds md e=true->e.on≠i)->oi.apart ops ok=true:=λk ok hk hki hun hno=>by
    refine hfree k ok hk hki ?_ hno
    by_cases hjk:j=k
    ·subst hjk;exact hjun
    ·rw[getD_set_ne true hjk]at hun;exact hun
   have hkeep':ld=true->∀k ok,ops[k]? =some ok->k≠i->(listed.setIfInBounds j true).getD k true=false->qS md ops i ops.size k=false->need k=true:=λhld k ok hk hki hun hno=>by
    refine hkeep hld k ok hk hki ?_ hno
    by_cases hjk:j=k
    ·subst hjk;exact hjun
    ·rw[getD_set_ne true hjk]at hun;exact hun
   refine wpOp_mono (λa' w' h3=>⟨h3.2.1,ih (listed.setIfInBounds j true) a' w' hfree' hkeep' (hcl.add hj) (ready_mono hr (Ne.symm hji)) h3.1 (λhld=>h3.2.1 (hneed hld) (hS hld)) ?_⟩) h2
   rw[Array.setIfInBounds_comm _ _ hji]
   exact h3.2.2
def Iy(o:Oper):Bool:=match o.op with
 | .load _ _=>true
 |_=>false
def Yk(ops:Array Oper)(i:Nat):Bool:=match ops[i]? with
 |some o=>Iy o
 |none=>true
inductive kB where
 |done
 |step (l:Bool) (i:Nat) (r:kB)
 |fork (i:Nat) (r o:kB)
 |stop
def kB.heads :kB->AE
 | .fork i _ o=>i::o.heads
 |_=>[]
def xY(P:AL)(ops:Array Oper)(R:Exit->Act->AI->Prop)(S:AI->Prop)(need:Nat->Bool):kB->Act->AI->Prop
 | .done,a,w=>R .normal a w
 | .step true i r,a,w=>∃o v,ops[i]? =some o/\YieldsIf P ops (λw=>Iy o=true->S w) o v a/\xY P ops R S need r (a.put o.dst v) w
 | .step false i r,a,w=>wpOp P ops R i (λa' w'=>(need i=true->S w->S w')/\xY P ops R S need r a' w') a w
 | .fork i r o,a,w=>wpOp P ops R i (λa' w'=>(need i=true->S w->S w')/\xY P ops R S need r a' w') a w/\xY P ops R S need o a w
 | .stop,_,_=>True
def My(md:Region.Mode)(ops:Array Oper)(need:Nat->Bool)(listed:Array Bool)(i:Nat):Bool:=
 (List.range ops.size).all λj=>j==i||listed.getD j true||qS md ops i ops.size j||need j
def mD(md:Region.Mode)(ops:Array Oper)(need:Nat->Bool):kB->Nat->Bool->Array Bool->Bool->Bool
 | .done,_,top,listed,_=>top&&(Region.ready md ops listed).isEmpty
 | .step true i r,fuel+1,top,listed,s=>top&&(!(Yk ops i)||(s&&My md ops need listed i))&&(Region.ready md ops listed).contains i&&Region.free md ops listed i&&mD md ops need r fuel true (listed.setIfInBounds i true) s
 | .step false i r,fuel+1,top,listed,s=>top&&(Region.ready md ops listed==[i])&&mD md ops need r fuel true (listed.setIfInBounds i true) (s&&need i)
 | .fork i r o,fuel+1,top,listed,s=>(!top||Region.ready md ops listed==i::o.heads)&&(Region.ready md ops listed).contains i&&mD md ops need r fuel true (listed.setIfInBounds i true) (s&&need i)&&mD md ops need o (fuel+1) false listed s
 | .stop,_,top,_,_=> !top
 | .step _ _ _,0,_,_,_=>false
 | .fork _ _ _,0,_,_,_=>false
def aPV{listed:Array Bool}{i:Nat}(h:My md ops need listed i=true)(j:Nat)(oj:Oper)(hj:ops[j]? =some oj)(hne:j≠i)(hun:listed.getD j true=false)
  (hno:qS md ops i ops.size j=false):need j=true:=by
 have hlt:j<ops.size:=by
  rcases du j ops.size with h1|h1
  ·exact h1
  ·rw[fp h1]at hj;cases hj
 have:=List.all_eq_true.1 h j (List.mem_range.2 hlt)
 simpa only[hun,hno,fm,cj,hne,Bool.or_false,eq,false_or] using this
def aK6(hs:Region.noSelect ops=true)(hR:∀c a w,¬R (.panic c) a w):∀(pl:kB) (fuel:Nat) (listed:Array Bool) (s:Bool) (a:Act) (w:AI),yS md ops listed->(s=true->S w)->xY P ops R S need pl a w->
  (mD md ops need pl fuel true listed s=true->Ek P md ops R S need fuel listed a w)/\
  (mD md ops need pl (fuel+1) false listed s=true->∀j∈pl.heads,wpOp P ops R j (λa' w'=>(need j=true->S w->S w')/\Ek P md ops R S need fuel (listed.setIfInBounds j true) a' w') a w):=by
 intro pl
 induction pl with
 |done=>
  intro fuel listed s a w _ _ h
  refine⟨λhB=>?_,λ_ j hj=>by cases hj⟩
  simp only[mD,gm,List.isEmpty_iff]at hB
  cases fuel with
  |zero=>exact⟨hB,h⟩
  |succ fuel=>exact⟨λ_=>h,λj hj=>by rw[hB]at hj;cases hj⟩
 |stop=>
  intro fuel listed s a w _ _ _
  exact⟨λhB=>by simp[mD]at hB,λ_ j hj=>by cases hj⟩
 |step l i r ih=>
  intro fuel listed s a w hcl hS h
  refine⟨λhB=>?_,λ_ j hj=>by cases hj⟩
  cases fuel with
  |zero=>simp[mD]at hB
  |succ fuel=>
   cases l with
   |true=>
    simp only[mD,gm,ax]at hB
    obtain⟨⟨⟨h1,h2⟩,h3⟩,h5⟩:=hB
    obtain⟨o,v,ho,hy,hr⟩:=h
    have h4:Iy o=true->s=true/\My md ops need listed i=true:=λhx=>by
     simp only[Yk,ho,hx,jq,Bool.false_or,ax]at h1
     exact h1
    refine aJY (Iy o) ho (Region.noSelect_spec hs) (λc a w hc=>absurd hc (hR c _ w)) fuel listed a w (λj oj hj hne hun hno=>Region.free_spec ho h3 j oj hj hne hun hno)
     (λhx j oj hj hne hun hno=>aPV (h4 hx).2 j oj hj hne hun hno) hcl (by simpa using h2) hy (λhx=>hS (h4 hx).1) ?_
    exact(ih fuel _ s _ w (hcl.add (by simpa using h2)) hS hr).1 h5
   |false=>
    simp only[mD,gm,ax,cj]at hB
    obtain⟨h1,h2⟩:=hB
    refine⟨λh0=>(by rw[h1]at h0;cases h0),λj hj=>?_⟩
    rw[h1]at hj
    have:j=i:=by simpa using hj
    subst this
    refine wpOp_mono (λa' w' h3=>⟨h3.1,(ih fuel _ (s&&need j) a' w' (hcl.add (by rw[h1];simp)) ?_ h3.2).1 h2⟩) h
    intro hx
    simp only[ax]at hx
    exact h3.1 hx.2 (hS hx.1)
 |fork i r o ih1 ih2=>
  intro fuel listed s a w hcl hS h
  have key:∀fuel top,mD md ops need (.fork i r o) (fuel+1) top listed s=true->∀j∈(kB.fork i r o).heads,wpOp P ops R j (λa' w'=>(need j=true->S w->S w')/\Ek P md ops R S need fuel (listed.setIfInBounds j true) a' w') a w:=by
   intro fuel top hB j hj
   simp only[mD,ax]at hB
   obtain⟨⟨⟨_,h2⟩,h3⟩,h4⟩:=hB
   simp only[kB.heads,ea]at hj
   rcases hj with rfl|hj
   ·refine wpOp_mono (λa' w' h5=>⟨h5.1,(ih1 fuel _ (s&&need j) a' w' (hcl.add (by simpa using h2)) ?_ h5.2).1 h3⟩) h.1
    intro hx
    simp only[ax]at hx
    exact h5.1 hx.2 (hS hx.1)
   ·exact(ih2 fuel listed s a w hcl hS h.2).2 h4 j hj
  refine⟨λhB=>?_,λhB=>key fuel false hB⟩
  cases fuel with
  |zero=>simp[mD]at hB
  |succ fuel=>
   have hk:=key fuel true hB
   simp only[mD,ax,jq,Bool.false_or,cj]at hB
   have h1:=hB.1.1.1
   refine⟨λh0=>(by rw[h1]at h0;cases h0),λj hj=>hk j ?_⟩
   rw[h1]at hj
   exact hj
def aQw{id:Nat}{a:Act}{w:AI}(pl:kB)(hm:P.follows .mixedOrders=true)(hs:Region.noSelect ops=true)
  (hB:mD .any ops need pl ops.size true (Array.replicate ops.size false) true=true) (hR:∀c a w,¬R (.panic c) a w) (hS:S {w with drawn:=w.drawn+1})
  (hd:ops.all Eb=true) (hL:¬LetsOut R) {r:AD} (h:xY P ops R S need pl a {w with drawn:=w.drawn+1}):(Code.region id ops true).wpIn (Fr r) 0 P R a w:=
 wpIn_region_any hm (aD5 hd hL _ _ _ _ (aFO _ _ _ _ ((aK6 hs hR pl _ _ true a _ (yS.start _) (λ_=>hS) h).1 hB)))
end
def Tl(l:Array Oper):Bool:=Region.noSelect l&&l.all Eb
def L2(Γ:dJ)(ops:List Oper)(S:AI->Prop)(need:AE)(pl:kB)(k:fK)(e:bE)(H:aF):Prop:=
 ∀a w,lI Γ.n Γ.D e a->St Γ.w0 Γ.ms H w->xY Γ.P ops.toArray (Q Γ.n Γ.D Γ.w0 Γ.ms k) S (λi=>need.any (Nat.beq i)) pl a w
section rules
variable {Γ:dJ}{k:fK}{e:bE}{H:aF}{ops:List Oper}{S:AI->Prop}{need:AE}{pl:kB}{i:Nat}
 {d:AD} {op:Op} {t:AJ} {pos:String} {af:AG} {g:Option (Nat×Bool)}
def Q.noPanic{n:Nat}{D:List Deferred}{w0:AI}{ms:AE}{k:fK}(c:List PanicEntry)(a:Act)(w:AI):¬Q n D w0 ms k (.panic c) a w:=
 λ⟨_,_,_,_,h⟩=>h
def kH(Γ:dJ)(F:aF)(w:AI):Prop:=∃G,St Γ.w0 Γ.ms G w/\∀x∈F,x∈G
def nH{id:Nat}{l:List Oper}(F:aF)(need:AE)(pl:kB)(hm:Γ.P.follows .mixedOrders=true)(hs:Tl l.toArray=true)
  (hB:mD .any l.toArray (λi=>need.any (Nat.beq i)) pl l.toArray.size true (Array.replicate l.toArray.size false) true=true)
  (hF:∀x∈F,x∈H) (h:L2 Γ l (kH Γ F) need pl k e H):C Γ (.region id l.toArray true) k e H:=
 λa _ ha hw=>by
  simp only[Tl,ax]at hs
  exact aQw pl hm hs.1 hB (λc a w=>Q.noPanic c a w) ⟨H,hw.drew,hF⟩ hs.2 Q.noOut (h a _ ha hw.drew)
def nN{r o:kB}(h1:L2 Γ ops S need (.step false i r) k e H)(h2:L2 Γ ops S need o k e H):L2 Γ ops S need (.fork i r o) k e H:=
 λa w ha hw=>⟨h1 a w ha hw,h2 a w ha hw⟩
def xE :L2 Γ ops S need .stop k e H:=λ_ _ _ _=>trivial
def aQT(h:k.N e H):L2 Γ ops S need .done k e H:=λ_ _ ha hw=>⟨e,H,ha,hw,h⟩
def Iv{v:AH}(ho:ops[i]? =some ⟨d,op,t,pos,af,g⟩)(hg:eS ops e ⟨d,op,t,pos,af,g⟩=true)(hd:eQ Γ.n d=true)
  (hl:∀w,(Iy ⟨d,op,t,pos,af,g⟩=true->S w)->(execOp (ev e) ⟨d,op,t,pos,af,g⟩).run Γ.P w= .ok (.value v) w)
  (h:L2 Γ ops S need pl k (e.put d v) H):L2 Γ ops S need (.step true i pl) k e H:=by
 intro a w ha hw
 refine⟨_,v,by rw[dr];exact ho,.inl ⟨by rw[Dc ha];exact hg,λw hS=>?_⟩,h _ _ (ha.put hd v) hw⟩
 rw[ha.eval];exact hl w hS
def Br :AH->Bool
 | .tuple _=>false
 |_=>true
def aNp{P:AL}{e:bE}{o:Oper}{v:AH}(h:dL P e o=some v)(hv:Br v=true)(w:AI):
  (execOp (ev e) o).run P w= .ok (.value v) w:=by
 rcases aA6 h w with h1|⟨h1,h2⟩
 ·exact h1
 ·subst h2;cases hv
def Dt{v:AH}(ho:ops[i]? =some ⟨d,op,t,pos,af,g⟩)(hl:dL Γ.P e ⟨d,op,t,pos,af,g⟩=some v)(hv:Br v=true)
  (hg:eS ops e ⟨d,op,t,pos,af,g⟩=true) (hd:eQ Γ.n d=true)
  (h:L2 Γ ops S need pl k (e.put d v) H):L2 Γ ops S need (.step true i pl) k e H:=
 Iv ho hg hd (λw _=>aNp hl hv w) h
def aPv{b:Bool}(ho:ops[i]? =some ⟨d,op,t,pos,af,g⟩)(hl:dL Γ.P e ⟨d,op,t,pos,af,g⟩=some (.bool b))
  (hg:eS ops e ⟨d,op,t,pos,af,g⟩=true) (hd:eQ Γ.n d=true)
  (ht:b=true->L2 Γ ops S need pl k (e.put d (.bool true)) H) (hf:b=false->L2 Γ ops S need pl k (e.put d (.bool false)) H):L2 Γ ops S need (.step true i pl) k e H:=by
 cases b
 ·exact Dt ho hl U hg hd (hf U)
 ·exact Dt ho hl U hg hd (ht U)
def aFn(ho:ops[i]? =some ⟨d,op,t,pos,af,g⟩)(hg:eS ops e ⟨d,op,t,pos,af,g⟩=false)(hd:eQ Γ.n d=true)
  (h:L2 Γ ops S need pl k (e.put d undef) H):L2 Γ ops S need (.step true i pl) k e H:=by
 intro a w ha hw
 exact⟨_,undef,by rw[dr];exact ho,.inr ⟨by rw[Dc ha];exact hg,U⟩,h _ _ (ha.put hd _) hw⟩
def aLw{o:Oper}{K:AH->aF->Prop}(ho:ops[i]? =some o)(hg:eS ops e o=true)(hd:eQ Γ.n o.dst=true)
  (h:∀w,St Γ.w0 Γ.ms H w->nK Γ.P o e w (λv w'=>∃H',St Γ.w0 Γ.ms H' w'/\K v H'))
  (hn:need.any (Nat.beq i)=true->∀v H' w',K v H'->St Γ.w0 Γ.ms H' w'->S w')
  (hk:∀v H',K v H'->L2 Γ ops S need pl k (e.put o.dst v) H'):L2 Γ ops S need (.step false i pl) k e H:=by
 intro a w ha hw
 unfold xY wpOp
 rw[dr,ho]
 simp only
 rw[Dc ha,ag hg]
 refine .inl (aQ7 ha (h w hw) ?_)
 rintro v w' ⟨H',h1,h2⟩
 exact⟨λhx _=>hn hx v H' w' h2 h1,hk v H' h2 _ _ (ha.put hd v) h1⟩
def Hy{o:Oper}(ho:ops[i]? =some o)(hg:eS ops e o=false)(hd:eQ Γ.n o.dst=true)
  (h:L2 Γ ops S need pl k (e.put o.dst undef) H):L2 Γ ops S need (.step false i pl) k e H:=by
 intro a w ha hw
 unfold xY wpOp
 rw[dr,ho]
 simp only
 rw[Dc ha,ae (by rw[hg];simp)]
 exact⟨λ_ hS=>hS,h _ _ (ha.put hd _) hw⟩
end rules
abbrev J(l:AA)(t:AJ):Obj:= .cells l.toArray t (0,0)
def Ak :AH->Option (List AH)
 | .agg ⟨l⟩=>some l
 | .bool b=>some [.bool b]
 | .int k n=>some [.int k n]
 | .string s=>some [.string s]
 | .pointer a=>some [.pointer a]
 | .slice a n c=>some [.slice a n c]
 | .map r=>some [.map r]
 | .func f a b=>some [.func f a b]
 | .nilFunc=>some [.nilFunc]
 | .iface t v=>some [.iface t v]
 | .nilIface=>some [.nilIface]
 |_=>none
def Hv{v:AH}{l:AA}(h:Ak v=some l):v.cells=l.toArray:=by
 cases v<;>simp[Ak]at h<;>subst h<;>simp[Value.cells]
def fJ(l:AA):Bool:=l.all (·.oneCell')
def xR(P:AL)(t:AJ):Bool:=
 match P.underlying t with
 |some (.struct _)=>false
 |some (.array _ _)=>false
 |some _=>true
 |none=>false
def sG(P:AL)(t:AJ):Bool:=
 match P.underlying t with
 |some (.struct _)=>true
 |some (.array _ _)=>true
 |_=>false
def jZ(P:AL)(t:AJ):AD:=(P.info? t).map (·.size)
def aLo{P:AL}{t:AJ}(h:xR P t=true)(w:AI):(isAgg t).run P w= .ok false w:=by
 unfold xR at h
 unfold isAgg
 rw[ay]
 split at h
 ·cases h
 ·cases h
 ·rename_i d hd1 hd2 hd
  rw[run_underlying hd w]
  simp only[ar]
  cases d<;>first|rfl|(exfalso;exact hd1 _ rfl)|(exfalso;exact hd2 _ _ rfl)
 ·cases h
def Fx{P:AL}{t:AJ}(h:sG P t=true)(w:AI):(isAgg t).run P w= .ok true w:=by
 unfold sG at h
 unfold isAgg
 rw[ay]
 split at h
 ·rename_i hd;rw[run_underlying hd w];rfl
 ·rename_i hd;rw[run_underlying hd w];rfl
 ·cases h
def vC{P:AL}{t:AJ}{n:Nat}(h:jZ P t=some n)(w:AI):(sizeOf t).run P w= .ok n w:=by
 unfold jZ at h
 cases hq:P.info? t with
 |none=>simp[hq]at h
 |some i=>
  have:i.size=n:=by simpa[hq] using h
  simp[sizeOf,typeInfo,hq,this]
def tI{w:AI}{b off:Nat}{cs:Array AH}{t:AJ}{fr:Nat×Nat}(h:w.heap[b]? =some (.cells cs t fr)):w.cell? ⟨b,off,none⟩=cs[off]? :=by
 simp[World.cell?,h]
def aK(w:AI)(b off:Nat)(l:AA):Prop:=∀j v,l[j]? =some v->w.cell? ⟨b,off+j,none⟩=some v
def aK.of_blk{w:AI}{b off:Nat}{cs:Array AH}{t:AJ}{fr:Nat×Nat}{l:AA}(h:w.heap[b]? =some (.cells cs t fr))(hl:∀j v,l[j]? =some v->cs[off+j]? =some v):aK w b off l:=
 λj v hv=>by rw[tI h];exact hl j v hv
def aK.all{w:AI}{b:Nat}{l:AA}{t:AJ}{fr:Nat×Nat}(h:w.heap[b]? =some (.cells l.toArray t fr)):aK w b 0 l:=
 aK.of_blk h λj v hv=>by simpa using hv
def aK.nil(w:AI)(b off:Nat):aK w b off []:=λ_ _ h=>by simp at h
def aK.add{w:AI}{b off:Nat}{l:AA}(h:aK w b off l)(j:Nat)(v:AH)(hv:l[j]? =some v):w.cell? ((⟨b,off,none⟩:Addr).add j)=some v:=by
 have hadd:(⟨b,off,none⟩:Addr).add j=⟨b,off+j,none⟩:=by unfold Addr.add;split<;>simp_all
 rw[hadd];exact h j v hv
section
variable {Γ:dJ}{e:bE}{H:aF}{d:AD}{ty:AJ}{pos:String}{af:AG}{g:Option (Nat×Bool)}
def dU(Γ:dJ)(o:Oper)(e:bE)(H:aF)(K:AH->aF->Prop):Prop:=
 ∀w,St Γ.w0 Γ.ms H w->nK Γ.P o e w (λv w'=>∃H',St Γ.w0 Γ.ms H' w'/\K v H')
def St.own_blk{w0 w:AI}{ms:AE}{H:aF}(h:St w0 ms H w){b:Nat}{o:Obj}(hm:(b,o)∈H):w.heap[b]? =some o:=h.holds _ hm
def eE{t:AJ}{x:AK}{v:AH}{l:AA}(hx:bA (ev e x)=some v)(hl:Ak v=some l):
  dU Γ ⟨d,.box t x,ty,pos,af,g⟩ e H (λu H'=>∃b,u= .pointer (some ⟨b,0,none⟩)/\H'=(b,J l t)::H):=by
 intro w hw
 refine gP (v:= .pointer (some ⟨w.heap.size,0,none⟩)) (w':=w.alloc (J l t)) ?_ ⟨_,hw.alloc _,_,U,U⟩
 simp[execOp,Instr.box,newVar,newRow,newObj,bM hx,Hv hl]
 rfl
def uR(P:AL)(t:AJ):Option (List AH):=
 match P.info? t with
 |some i=>match i.zero with
  |some z=>Ak z
  |none=>none
 |none=>none
def Ss{P:AL}{t:AJ}{l:AA}(h:uR P t=some l)(w:AI):∃z,(zeroValue t).run P w= .ok z w/\z.cells=l.toArray:=by
 unfold uR at h
 split at h
 ·rename_i i hi
  split at h
  ·rename_i z hz
   exact⟨z,by simp[zeroValue,typeInfo,hi,hz],Hv h⟩
  ·cases h
 ·cases h
def gJ{t:AJ}{l:AA}(hl:uR Γ.P t=some l):
  dU Γ ⟨d,.alloc t,ty,pos,af,g⟩ e H (λu H'=>∃b,u= .pointer (some ⟨b,0,none⟩)/\H'=(b,J l t)::H):=by
 intro w hw
 obtain⟨z,hz,hc⟩:=Ss hl w
 refine gP (v:= .pointer (some ⟨w.heap.size,0,none⟩)) (w':=w.alloc (J l t)) ?_ ⟨_,hw.alloc _,_,U,U⟩
 simp[execOp,Instr.alloc,ay,hz,newVar,newRow,newObj,hc]
 rfl
def aCk{P:AL}{t:AJ}{x:AK}{b off:Nat}{v:AH}(hx:bA (ev e x)=some (.pointer (some ⟨b,off,none⟩)))(hs:xR P t=true){w:AI}
  (hc:w.cell? ⟨b,off,none⟩=some v):(execOp (ev e) ⟨d,.load t x,ty,pos,af,g⟩).run P w= .ok (.value v) w:=by
 have hx:=bM hx
 simp[execOp,Instr.loadAt,Instr.sureAddr,hx,loadVar,ay,aLo hs,load,Sem.run,hc]
def aW{t:AJ}{x:AK}{b off:Nat}{v:AH}(hx:bA (ev e x)=some (.pointer (some ⟨b,off,none⟩)))(hs:xR Γ.P t=true)
  (hc:∀w,St Γ.w0 Γ.ms H w->w.cell? ⟨b,off,none⟩=some v):dU Γ ⟨d,.load t x,ty,pos,af,g⟩ e H (λu H'=>u=v/\H'=H):=
 λw hw=>gP (aCk hx hs (hc w hw)) ⟨H,hw,rfl,rfl⟩
def aFq{P:AL}{t:AJ}{x:AK}{b off:Nat}{l:AA}(hx:bA (ev e x)=some (.pointer (some ⟨b,off,none⟩)))(hs:sG P t=true)(hn:jZ P t=some l.length){w:AI}
  (hc:aK w b off l):(execOp (ev e) ⟨d,.load t x,ty,pos,af,g⟩).run P w= .ok (.value (.agg l.toArray)) w:=by
 have hx:=bM hx
 have hl:=run_loadCells_list (P:=P) w ⟨b,off,none⟩ l hc.add
 simp[execOp,Instr.loadAt,Instr.sureAddr,hx,loadVar,ay,Fx hs,vC hn,hl]
def bJ{t:AJ}{x:AK}{b off:Nat}{l:AA}(hx:bA (ev e x)=some (.pointer (some ⟨b,off,none⟩)))(hs:sG Γ.P t=true)(hn:jZ Γ.P t=some l.length)
  (hc:∀w,St Γ.w0 Γ.ms H w->aK w b off l):dU Γ ⟨d,.load t x,ty,pos,af,g⟩ e H (λu H'=>u= .agg l.toArray/\H'=H):=
 λw hw=>gP (aFq hx hs hn (hc w hw)) ⟨H,hw,rfl,rfl⟩
def bT{w0:AI}{ms:AE}{b:Nat}{l:AA}{t:AJ}{fr:Nat×Nat}{off:Nat}{v:AH}(hm:(b,Obj.cells l.toArray t fr)∈H)(hv:l[off]? =some v):
  ∀w,St w0 ms H w->w.cell? ⟨b,off,none⟩=some v:=λw hw=>by rw[tI (hw.own_blk hm)];simpa using hv
def dN{w0:AI}{ms:AE}{b off:Nat}{v:AH}(hc:w0.cell? ⟨b,off,none⟩=some v)(hb:b∉ms):∀w,St w0 ms H w->w.cell? ⟨b,off,none⟩=some v:=λw hw=>by
 unfold World.cell? at hc⊢
 simp only at hc⊢
 cases hq:w0.heap[b]? with
 |none=>simp[hq]at hc
 |some o=>rw[hw.old hq hb];rw[hq]at hc;exact hc
def aI{w0:AI}{ms:AE}{b:Nat}{l:AA}{t:AJ}{fr:Nat×Nat}(hm:(b,Obj.cells l.toArray t fr)∈H):∀w,St w0 ms H w->aK w b 0 l:=λ_ hw=>aK.all (hw.own_blk hm)
def bU{w0:AI}{ms:AE}{b off:Nat}{l:AA}(hr:aK w0 b off l)(hb:b∉ms):∀w,St w0 ms H w->aK w b off l:=λ_ hw j v hv=>dN (hr j v hv) hb _ hw
def aV(l:AA)(off:Nat)(vs:AA):AA:=l.take off++vs++l.drop (off+vs.length)
def St.setAt{w0 w w':AI}{ms:AE}{H:aF}{i b:Nat}{o o':Obj}(h:St w0 ms H w)(hi:H[i]? =some (b,o))
  (h1:w'.os=w.os) (h2:w'.tape=w.tape) (h3:w'.output=w.output) (h4:w'.heap.size=w.heap.size)
  (h5:∀k,k≠b->w'.heap[k]? =w.heap[k]?) (h6:w'.heap[b]? =some o'):St w0 ms (H.set i (b,o')) w':=by
 have hlt:i<H.length:=(List.getElem?_eq_some_iff.1 hi).1
 have hget:H[i]=(b,o):=(List.getElem?_eq_some_iff.1 hi).2
 have hsplit:H=H.take i++(b,o)::H.drop (i+1):=by
  rw[<-hget,List.getElem_cons_drop,dp]
 have hset:H.set i (b,o')=H.take i++(b,o')::H.drop (i+1):=by
  rw[dt,ag hlt]
 rw[hset]
 have h':St w0 ms ((b,o)::(H.take i++H.drop (i+1))) w:=h.perm (by
  conv=>lhs;rw[hsplit]
  exact List.perm_middle)
 exact(h'.turn h1 h2 h3 h4 h5 h6).perm List.perm_middle.symm
def hQ{t:AJ}{x y:AK}{b off:Nat}{v:AH}{vs l:AA}{T:AJ}(i:Nat)
  (hx:bA (ev e x)=some (.pointer (some ⟨b,off,none⟩))) (hy:bA (ev e y)=some v) (hv:Ak v=some vs) (hn:jZ Γ.P t=some vs.length) (h1:fJ vs=true)
  (hi:H[i]? =some (b,J l T)) (hl:off+vs.length<=l.length):
  dU Γ ⟨d,.store t x y,ty,pos,af,g⟩ e H (λu H'=>u=undef/\H'=H.set i (b,J (aV l off vs) T)):=by
 intro w hw
 have hx:=bM hx
 have hy:=bM hy
 have hg:w.heap[b]? =some (J l T):=hw.own_blk (cr hi)
 have hst:=run_storeCells_at Γ.P b off T vs 0 l.toArray w hg (by simpa using hl) (by simpa[fJ] using h1)
 simp only[gt]at hst
 have hc:=Hv hv
 refine Zr (w':=w.setRow b (aV l off vs).toArray) ?_ ⟨_,?_,U,U⟩
 ·simp[execOp,Instr.storeAt,Instr.sureAddr,hx,hy,storeVar,ay,vC hn,hc,hst,aV]
 ·exact hw.setAt hi U U U (by simp[World.setRow]) (λk hk=>setRow_other w b k _ hk) (setRow_heap w b _ _ T _ hg)
def aQp{t el:AJ}{len n:Nat}{parts:Array (Nat×AK)}{ps:List (Nat×AH)}{l:AA}{z:AA}
  (hu:Γ.P.underlying t=some (.slice el)) (hp:(parts.map λ(i,x)=>(i,ev e x)).toList=ps) (hn:jZ Γ.P el=some n) (hsm:Nat.ble (len*n) 16777216=true) (hpos:Nat.ble 1 (len*n)=true)
  (hz:uR Γ.P el=some z)
  (hf:Instr.fill (λi=>some (i*n,n)) ((Array.range (len*n)).map (z.toArray[· %z.toArray.size]!)) ps=some l.toArray):
  dU Γ ⟨d,.buildSlice t len parts,ty,pos,af,g⟩ e H (λu H'=>∃b,u= .slice (some ⟨b,0,none⟩) len len/\H'=(b,J l el)::H):=by
 intro w hw
 have h2:¬len*n=0:=by have:=ah hpos;omega
 have h3:¬len*n>2^24:=by have:=ah hsm;omega
 obtain⟨zv,hzv,hzc⟩:=Ss hz w
 refine gP (v:= .slice (some ⟨w.heap.size,0,none⟩) len len) (w':=w.alloc (J l el)) ?_ ⟨_,hw.alloc _,_,U,U⟩
 subst hp
 have key:(Instr.buildSlice t len (parts.map λ(i,x)=>(i,ev e x))).run Γ.P w= .ok (.slice (some ⟨w.heap.size,0,none⟩) len len) (w.alloc (J l el)):=by
  unfold Instr.buildSlice
  simp only[ay,run_underlying hu,vC hn,ar,h2,h3,if_false,hzv,hzc,hf,ca]
  rfl
 simp only[execOp,ay,key,ar,ca]
end
section
variable {P:AL}{Γ:dJ}{e:bE}{H:aF}{d:AD}{ty:AJ}{pos:String}{af:AG}{g:Option (Nat×Bool)}
def qV(P:AL)(t:AJ):Option (Nat×Nat):=
 match P.underlying t with
 |some (.slice el)=>match jZ P el with
  |some s=>some (el,s)
  |none=>none
 |_=>none
def xC(P:AL)(t:AJ):Option (Nat×Nat×Nat):=
 match P.underlying t with
 |some (.array n el)=>match jZ P el with
  |some s=>some (n,el,s)
  |none=>none
 |_=>none
def wL{t el s:Nat}(h:qV P t=some (el,s)):P.underlying t=some (.slice el)/\jZ P el=some s:=by
 unfold qV at h
 split at h
 ·rename_i el' hu
  split at h
  ·rename_i s' hs;cases h;exact⟨hu,hs⟩
  ·cases h
 ·cases h
def Lu{t n el s:Nat}(h:xC P t=some (n,el,s)):P.underlying t=some (.array n el)/\jZ P el=some s:=by
 unfold xC at h
 split at h
 ·rename_i n' el' hu
  split at h
  ·rename_i s' hs;cases h;exact⟨hu,hs⟩
  ·cases h
 ·cases h
def yN(b off k:Nat):(⟨b,off,none⟩:Addr).add k=⟨b,off+k,none⟩:=by unfold Addr.add;split<;>simp_all
def nA{α:Type}{t:AJ}{D:TypeDesc}(h:P.underlying t=some D)(f:TypeDesc->Sem α):eO P (underlying t >>= f)=eO P (f D):=by
 simp[underlying,program,bind,Sem.bind,eO,h,pure]
def vQ{α:Type}{t n:Nat}(h:jZ P t=some n)(f:Nat->Sem α):eO P (sizeOf t >>= f)=eO P (f n):=by
 unfold jZ at h
 cases hq:P.info? t with
 |none=>simp[hq]at h
 |some i=>
  have:i.size=n:=by simpa[hq] using h
  simp[sizeOf,typeInfo,program,bind,Sem.bind,eO,hq,pure,this]
def rU{α β:Type}(a:α)(f:α->Sem β):eO P ((pure a:Sem α) >>= f)=eO P (f a):=rfl
def iY{o:Oper}{v:AH}(h:eO P (execOp (ev e) o)=some (.value v))(hv:bA v=some v):dL P e o=some v:=by
 simp[dL,h,hv]
def fV{t:AJ}{x i:AK}{b off n c el s:Nat}{k:AM}{j:Int}(m:Nat)(hx:bA (ev e x)=some (.slice (some ⟨b,off,none⟩) n c))(hi:bA (ev e i)=some (.int k j))
  (hu:qV P t=some (el,s)) (hj:j=(m:Int)) (hm:m<n):
  dL P e ⟨d,.indexAddr t x i,ty,pos,af,g⟩=some (.pointer (some ⟨b,off+m*s,none⟩)):=by
 obtain⟨h1,h2⟩:=wL hu
 have hx:=bM hx
 have hi:=bM hi
 subst hj
 refine iY ?_ U
 have h3:(0:Int)<=(m:Int)/\(m:Int)<(n:Int):=⟨by omega,by omega⟩
 simp only[execOp,hx,hi,Instr.indexAt,asIntOf,rU,bind_assoc,nA h1,h3,and_self,if_true,vQ h2,c8,yN]
 rfl
def iU{t:AJ}{x i:AK}{b off n el s:Nat}{k:AM}{j:Int}(m:Nat)(hx:bA (ev e x)=some (.pointer (some ⟨b,off,none⟩)))(hi:bA (ev e i)=some (.int k j))
  (hu:xC P t=some (n,el,s)) (hj:j=(m:Int)) (hm:m<n):
  dL P e ⟨d,.indexAddr t x i,ty,pos,af,g⟩=some (.pointer (some ⟨b,off+m*s,none⟩)):=by
 obtain⟨h1,h2⟩:=Lu hu
 have hx:=bM hx
 have hi:=bM hi
 subst hj
 refine iY ?_ U
 have h3:(0:Int)<=(m:Int)/\(m:Int)<(n:Int):=⟨by omega,by omega⟩
 simp only[execOp,hx,hi,Instr.indexAt,asIntOf,Instr.sureAddr,rU,bind_assoc,nA h1,h3,and_self,if_true,vQ h2,c8,yN]
 rfl
def eF{t:AJ}{x i:AK}{b off n c el:Nat}{k:AM}{j:Int}(m:Nat)(hx:bA (ev e x)=some (.slice (some ⟨b,off,none⟩) n c))(hi:bA (ev e i)=some (.int k j))
  (hu:qV P t=some (el,1)) (hj:j=(m:Int)) (hm:m<n):
  dL P e ⟨d,.indexAddr t x i,ty,pos,af,g⟩=some (.pointer (some ⟨b,off+m,none⟩)):=by
 have:=fV (d:=d) (ty:=ty) (pos:=pos) (af:=af) (g:=g) m hx hi hu hj hm
 rwa[fw]at this
def eB{t:AJ}{x i:AK}{b off n el:Nat}{k:AM}{j:Int}(m:Nat)(hx:bA (ev e x)=some (.pointer (some ⟨b,off,none⟩)))(hi:bA (ev e i)=some (.int k j))
  (hu:xC P t=some (n,el,1)) (hj:j=(m:Int)) (hm:m<n):
  dL P e ⟨d,.indexAddr t x i,ty,pos,af,g⟩=some (.pointer (some ⟨b,off+m,none⟩)):=by
 have:=iU (d:=d) (ty:=ty) (pos:=pos) (af:=af) (g:=g) m hx hi hu hj hm
 rwa[fw]at this
def Lf{t:AJ}{x i:AK}{b n el:Nat}{k:AM}{j:Int}(m:Nat)(hx:bA (ev e x)=some (.pointer (some ⟨b,0,none⟩)))(hi:bA (ev e i)=some (.int k j))
  (hu:xC P t=some (n,el,1)) (hj:j=(m:Int)) (hm:m<n):
  dL P e ⟨d,.indexAddr t x i,ty,pos,af,g⟩=some (.pointer (some ⟨b,m,none⟩)):=by
 have:=eB (d:=d) (ty:=ty) (pos:=pos) (af:=af) (g:=g) m hx hi hu hj hm
 rwa[bj]at this
def nG(off l s c:Nat):Nat:=if c=l then off else off+l*s
def aK.cut{w:AI}{b off:Nat}{L:AA}(h:aK w b off L){l k s c:Nat}(hc:l+k<=c):aK w b (nG off l s c) ((L.drop (l*s)).take (k*s)):=by
 unfold nG
 by_cases hcl:c=l
 ·rw[ag hcl]
  have:k=0:=by omega
  subst this
  simp only[gf,gu]
  exact aK.nil w b off
 ·rw[ae hcl]
  intro j v hv
  rw[fe]at hv
  split at hv
  ·rw[ee]at hv
   rw[ec];exact h _ _ hv
  ·cases hv
def cut1(off l c:Nat):Nat:=if c=l then off else off+l
def I4(off l c:Nat):nG off l 1 c=cut1 off l c:=by simp[nG,cut1]
def aK.cut1{w:AI}{b off:Nat}{L:AA}(h:aK w b off L){l k c:Nat}(hc:l+k<=c):aK w b (VV.cut1 off l c) ((L.drop l).take k):=by
 have:=h.cut (l:=l) (k:=k) (s:=1) hc
 rwa[I4,fw,fw]at this
def aB1(e:bE)(x:AK):Option Int:=
 match bA (ev e x)with
 |some (.int _ j)=>some j
 |_=>none
def oU(e:bE):Option AK->Option (Option Int)
 |none=>some none
 |some x=>(aB1 e x).map some
def Ka{x:AK}{j:Int}{m y:Nat}{code:BoundsCode}(hx:oU e (some x)=some (some j))(hj:j=(m:Int))(hm:m<=y):
  Instr.sliceBound (ev e x) y code=pure m:=by
 simp only[oU,Option.map_eq_some_iff,Option.some.injEq,exists_eq_right]at hx
 unfold aB1 at hx
 split at hx
 ·rename_i h
  simp only[Option.some.injEq]at hx
  subst hx
  have:=bM h
  subst hj
  have h3:(0:Int)<=(m:Int)/\(m:Int)<=(y:Int):=⟨by omega,by omega⟩
  simp[Instr.sliceBound,this,asIntOf,h3]
 ·cases hx
def H4{isS:Bool}{lo hi:Option AK}{n c:Nat}{jl jh:Option Int}(l h:Nat)
  (hlo:oU e lo=some jl) (hhi:oU e hi=some jh) (hl:jl.getD 0=(l:Int)) (hh:jh.getD n=(h:Int)) (h1:l<=h) (h2:h<=c):
  Instr.sliceBounds isS n c (lo.map (ev e)) (hi.map (ev e)) none=pure (l,h,c):=by
 have bn:∀(x:AK),oU e (some x)≠some none:=λx hx=>by
  simp[oU]at hx
 have fin:∀(f:BoundsCode->Sem Nat),(∀code,f code=(pure h:Sem Nat))->∀cd,((f cd >>= λh'=>(match lo.map (ev e)with
   |some v=>Instr.sliceBound v h' .sliceB
   |none=>(pure 0:Sem Nat)) >>= λl=>pure (l,h',c)):Sem (Nat×Nat×Nat))=pure (l,h,c):=by
  intro f hf cd
  rw[hf]
  simp only[pure_bind]
  cases lo with
  |none=>
   cases hlo
   simp only[Option.getD_none]at hl
   have:l=0:=by omega
   subst this
   rfl
  |some y=>
   cases jl with
   |none=>exact absurd hlo (bn y)
   |some j=>
    simp only[i4]
    rw[Ka hlo (by simpa using hl) h1]
    rfl
 cases hi with
 |none=>
  cases hhi
  simp only[Option.getD_none]at hh
  have hnh:n=h:=by omega
  subst hnh
  have:=fin (λ_=>pure n) (λ_=>rfl) .index
  cases lo<;>(simp only[Instr.sliceBounds];exact this)
 |some y=>
  cases jh with
  |none=>exact absurd hhi (bn y)
  |some j=>
   have:=fin (λcd=>Instr.sliceBound (ev e y) c cd) (λcd=>Ka hhi (by simpa using hh) h2) (if isS then .sliceAcap else .sliceAlen)
   cases lo<;>(simp only[Instr.sliceBounds];exact this)
def wO{t:AJ}{x:AK}{lo hi:Option AK}{b off n c el s:Nat}{jl jh:Option Int}(l h:Nat)(hx:bA (ev e x)=some (.slice (some ⟨b,off,none⟩) n c))
  (hu:qV P t=some (el,s)) (hlo:oU e lo=some jl) (hhi:oU e hi=some jh) (hl:jl.getD 0=(l:Int)) (hh:jh.getD n=(h:Int)) (h1:l<=h) (h2:h<=c):
  dL P e ⟨d,.slice t x lo hi none,ty,pos,af,g⟩=some (.slice (some ⟨b,nG off l s c,none⟩) (h-l) (c-l)):=by
 obtain⟨g1,g2⟩:=wL hu
 have hx:=bM hx
 refine iY ?_ U
 have hb:=H4 (isS:=true) l h hlo hhi hl hh h1 h2
 simp only[execOp,hx,Instr.sliceAt,Instr.slice,bind_assoc,nA g1,i5,hb,rU,vQ g2]
 unfold nG
 by_cases hcl:c=l
 ·simp only[hcl,if_true];rfl
 ·simp only[hcl,if_false,i4,yN];rfl
def aRy{t:AJ}{x:AK}{lo hi:Option AK}{b off n el s:Nat}{jl jh:Option Int}(l h:Nat)(hx:bA (ev e x)=some (.pointer (some ⟨b,off,none⟩)))
  (hu:xC P t=some (n,el,s)) (hlo:oU e lo=some jl) (hhi:oU e hi=some jh) (hl:jl.getD 0=(l:Int)) (hh:jh.getD n=(h:Int)) (h1:l<=h) (h2:h<=n):
  dL P e ⟨d,.slice t x lo hi none,ty,pos,af,g⟩=some (.slice (some ⟨b,nG off l s n,none⟩) (h-l) (n-l)):=by
 obtain⟨g1,g2⟩:=Lu hu
 have hx:=bM hx
 refine iY ?_ U
 have hb:=H4 (isS:=false) l h hlo hhi hl hh h1 h2
 simp only[execOp,hx,Instr.sliceAt,Instr.sureAddr,bind_assoc,rU,nA g1,i5,hb,vQ g2]
 unfold nG
 by_cases hcl:n=l
 ·simp only[hcl,if_true];rfl
 ·simp only[hcl,if_false,yN];rfl
def nM{t:AJ}{x:AK}{lo hi:Option AK}{b off n c el:Nat}{jl jh:Option Int}(l h:Nat)(hx:bA (ev e x)=some (.slice (some ⟨b,off,none⟩) n c))
  (hu:qV P t=some (el,1)) (hlo:oU e lo=some jl) (hhi:oU e hi=some jh) (hl:jl.getD 0=(l:Int)) (hh:jh.getD n=(h:Int)) (h1:l<=h) (h2:h<=c):
  dL P e ⟨d,.slice t x lo hi none,ty,pos,af,g⟩=some (.slice (some ⟨b,cut1 off l c,none⟩) (h-l) (c-l)):=by
 have:=wO (d:=d) (ty:=ty) (pos:=pos) (af:=af) (g:=g) l h hx hu hlo hhi hl hh h1 h2
 rwa[I4]at this
def pR{t:AJ}{x:AK}{lo hi:Option AK}{b off n el:Nat}{jl jh:Option Int}(l h:Nat)(hx:bA (ev e x)=some (.pointer (some ⟨b,off,none⟩)))
  (hu:xC P t=some (n,el,1)) (hlo:oU e lo=some jl) (hhi:oU e hi=some jh) (hl:jl.getD 0=(l:Int)) (hh:jh.getD n=(h:Int)) (h1:l<=h) (h2:h<=n):
  dL P e ⟨d,.slice t x lo hi none,ty,pos,af,g⟩=some (.slice (some ⟨b,cut1 off l n,none⟩) (h-l) (n-l)):=by
 have:=aRy (d:=d) (ty:=ty) (pos:=pos) (af:=af) (g:=g) l h hx hu hlo hhi hl hh h1 h2
 rwa[I4]at this
inductive bS(T s:Nat):AH->Nat->AA->aF->Prop
 |nil:bS T s (.slice none 0 0) 0 [] []
 |row (b n cap:Nat) (xs sp:AA) (hn:xs.length=n*s) (hc:(xs++sp).length=cap*s) (hm:cap<=maxLen) (hle:n<=cap):bS T s (.slice (some ⟨b,0,none⟩) n cap) n xs [(b,J (xs++sp) T)]
def bS.len{T s:Nat}{v:AH}{n:Nat}{xs:AA}{G:aF}(h:bS T s v n xs G):xs.length=n*s:=by
 cases h with
 |nil=>simp
 |row _ _ _ _ _ hn=>exact hn
def bS.slice{T s:Nat}{v:AH}{n:Nat}{xs:AA}{G:aF}(h:bS T s v n xs G):∃a c,v= .slice a n c:=by
 cases h with
 |nil=>exact⟨_,_,rfl⟩
 |row _ _ _ _ _ _ _ _ _=>exact⟨_,_,rfl⟩
inductive vA(w:AI)(s:Nat):AH->Nat->AA->Prop
 |row (b off m c:Nat) (xs:AA) (hn:xs.length=m*s) (hr:aK w b off xs):vA w s (.slice (some ⟨b,off,none⟩) m c) m xs
def bS.owns{T s:Nat}{v:AH}{n:Nat}{xs:AA}{G:aF}(h:bS T s v n xs G){w0 w:AI}{ms:AE}{R:aF}(hw:St w0 ms (G++R) w):w.ownsRow 0 T s v n xs:=by
 cases h with
 |nil=>exact⟨by simp,.inl ⟨rfl,rfl⟩⟩
 |row b n cap xs sp hn hc hm hle=>
  refine⟨hn,.inr ⟨b,cap,(xs++sp).toArray,U,aq _,hw.own_blk (by simp),hle,hm,by simpa using hc,?_⟩⟩
  simp[<-hn]
def bS.of_owns{T s:Nat}{v:AH}{n:Nat}{xs:AA}{w:AI}(h:w.ownsRow 0 T s v n xs):
  ∃G,bS T s v n xs G/\(∀x∈G,w.heap[x.1]? =some x.2)/\(∀x∈G,v.ownBlock=some x.1)/\(G.map (·.1)).Nodup:=by
 obtain⟨h1,h2⟩:=h
 rcases h2 with⟨rfl,rfl⟩|⟨b,cap,cur,rfl,_,hb,hle,hm,hc,ht⟩
 ·have:xs=[]:=db (by simpa using h1)
  subst this
  exact⟨[],.nil,by simp,by simp,by simp⟩
 ·refine⟨_,.row b n cap xs (cur.toList.drop (n*s)) h1 ?_ hm hle,?_,?_,by simp⟩
  ·rw[<-ht,dp];simpa using hc
  ·intro x hx
   simp only[il]at hx
   subst hx
   rw[hb]
   simp only[J]
   congr 2
   rw[<-ht,dp]
  ·intro x hx
   simp only[il]at hx
   subst hx;rfl
def xS(P:AL)(t:AJ):Option (Nat×Nat×Nat):=
 match P.underlying t with
 |some (.slice el)=>match P.info? el with
  |some i=>match i.zero with
   |some z=>if z.cells.size=i.size/\0<i.size then some (el,i.size,i.bytes)else none
   |none=>none
  |none=>none
 |_=>none
def aMO(w:AI)(t ty el:AJ)(i:TypeInfo)(z:AH)(hu:P.underlying t=some (.slice el))(hi:P.info? el=some i)(hz:i.zero=some z)(v:AH)(n:Nat)(xs:AA)
  (hown:w.ownsRow 0 el i.size v n xs) (b off m c:Nat) (ys:AA) (hn:ys.length=m*i.size) (hr:∀j u,ys[j]? =some u->w.cell? ((⟨b,off,none⟩:Addr).add j)=some u) (h1:∀u∈ys,u.oneCell'=true)
  (h63:n+m<=maxLen) (hbytes:(n+m)*i.bytes<=140737488355328) {v':AH} {w':AI}
  (hrun:(Builtin.append_ #[t,t] ty #[v,.slice (some ⟨b,off,none⟩) m c]).run P w= .ok v' w'):
  v'.ownBlock=v.ownBlock\/v'.ownBlock=some w.heap.size:=by
 have hsm:n+m<=9223372036854775807:=by unfold maxLen at h63;omega
 obtain⟨hx,h2⟩:=hown
 rcases h2 with⟨rfl,rfl⟩|⟨g,cap,cur,rfl,_,hg,hle,hm,hcs,htake⟩
 ·by_cases hm0:m=0
  ·subst hm0
   have hys:ys=[]:=db (by simpa using hn)
   subst hys
   have hr0:(Builtin.append_ #[t,t] ty #[.slice none 0 0,.slice (some ⟨b,off,none⟩) 0 c]).run P w= .ok (.slice none 0 0) w:=by
    simp[Builtin.append_,run_underlying hu,sizeOf,typeInfo,hi,Builtin.lenOf,Builtin.firstCells,loadCells,loadCellsFrom]
   rw[hr0]at hrun
   cases hrun
   exact .inl U
  ·have h3:=run_append_nil (P:=P) w t ty el i z hu hi hz ⟨b,off,none⟩ m c ys hn hr (by omega) (by omega) (by simp only[bj]at hbytes;omega)
   rw[h3]at hrun
   cases hrun
   exact .inr U
 ·by_cases hroom:n+m<=cap
  ·have hfit:n*i.size+ys.length<=cur.size:=by rw[hn,hcs,<-jk];exact gb _ hroom
   have h3:=run_append_room (P:=P) w t ty el i hu hi g n cap cur hg ⟨b,off,none⟩ m c ys hn hr h1 hroom hfit
   rw[h3]at hrun
   cases hrun
   exact .inl U
  ·have holds:∀j u,xs[j]? =some u->w.cell? ((⟨g,0,none⟩:Addr).add j)=some u:=World.ownsRow.cells ⟨hx,.inr ⟨g,cap,cur,rfl,aq _,hg,hle,hm,hcs,htake⟩⟩ rfl
   have h3:=run_append_grow (P:=P) w t ty el i z hu hi hz ⟨g,0,none⟩ n cap xs hx holds ⟨b,off,none⟩ m c ys hn hr (by omega) (by omega) (growslice_fits (by omega) hbytes)
   rw[h3]at hrun
   cases hrun
   exact .inr U
def lZ{t:AJ}{x y:AK}{T s by_:Nat}{v u:AH}{n m:Nat}{xs ys:AA}{G A R:aF}{ts:Array AJ}
  (hx:ev e x=v) (hy:ev e y=u) (hts:ts= #[t,t]) (hp:xS Γ.P t=some (T,s,by_)) (hv:bS T s v n xs G)
  (hs:∀w,St Γ.w0 Γ.ms (A++(G++R)) w->vA w s u m ys) (h1:fJ ys=true) (hlen:n+m<=140737488355328) (hb:(n+m)*by_<=140737488355328):
  dU Γ ⟨d,.call ⟨.builtin .append,#[x,y],ts⟩,ty,pos,af,g⟩ e (A++(G++R)) (λv' H'=>∃G',bS T s v' (n+m) (xs++ys) G'/\(v'= .slice none 0 0->n=0/\m=0)/\H'=G'++(A++R)):=by
 intro w hw
 subst hts hx hy
 unfold xS at hp
 split at hp<;>try cases hp
 rename_i el hu
 split at hp<;>try cases hp
 rename_i i hi
 split at hp<;>try cases hp
 rename_i z hz
 split at hp<;>try cases hp
 rename_i hzs
 obtain⟨hz1,hz2⟩:=hzs
 have hw2:St Γ.w0 Γ.ms (G++(A++R)) w:=hw.perm (by
  rw[<-cx,<-cx]
  exact dz R bf)
 have hs':=hs w hw
 generalize hue:ev e y=u at hs'
 generalize hve:ev e x=v at hv
 cases hs' with
 |row b off m c ys hn hr=>
  have hown:=hv.owns hw2
  obtain⟨v',w',hrun,hown',hgr,hnil⟩:=run_append_own (P:=Γ.P) w 0 t ty T i z i.size i.bytes hu hi hz rfl rfl hz1 hz2 v n xs hown ⟨b,off,none⟩ m c ys hn hr.add (by simpa[fJ] using h1) (by unfold maxLen;omega) (by omega) (aq _)
  obtain⟨G',hV',hG',hGo,hGn⟩:=bS.of_owns hown'
  have hnd:=hw2.nodup
  rw[bz,dx]at hnd
  obtain⟨hnG,hnR,hGR⟩:=hnd
  have hvb:∀k,v.ownBlock=some k->∃o,(k,o)∈G:=by
   intro k hk
   cases hv with
   |nil=>cases hk
   |row b2 _ cap2 _ sp2 _ _ _ _=>
    simp only[Value.ownBlock,Option.some.injEq]at hk
    subst hk
    exact⟨J (xs++sp2) T,by simp⟩
  have hkeep:∀k,k<w.heap.size->(∀o,(k,o)∉G)->w'.heap[k]? =w.heap[k]? :=λk hk hno=>hgr.block k hk (λhe=>by
   obtain⟨o,ho⟩:=hvb k he.symm
   exact hno o ho)
  have hnew:∀x∈G',(∃o,(x.1,o)∈G)\/w.heap.size<=x.1:=by
   intro x hx
   have h3:=hGo x hx
   have h4:=hG' x hx
   by_cases hlt:x.1<w.heap.size
   ·by_cases hno:∃o,(x.1,o)∈G
    ·exact .inl hno
    ·exfalso
     rcases aMO (P:=Γ.P) w t ty T i z hu hi hz v n xs hown b off m c ys hn hr.add (by simpa[fJ] using h1) (by unfold maxLen;omega) (by omega) hrun with hc|hc
     ·rw[hc]at h3
      exact hno (hvb _ h3)
     ·rw[hc]at h3;simp only[Option.some.injEq]at h3;omega
   ·exact .inr (by omega)
  have hA:St Γ.w0 Γ.ms (G'++(A++R)) w':=by
   refine⟨hgr.os.trans hw2.os,hgr.tape.trans hw2.tape,hgr.output.trans hw2.output,gr hw2.size hgr.size,?_,?_,?_,?_⟩
   ·intro k hk hm2
    have hsz:=hw2.size
    rw[hkeep k (by omega) ?_]
    ·exact hw2.block k hk hm2
    ·intro o ho
     rcases hw2.own (k,o) (by simp[ho])with h7|h7
     ·exact hm2 h7
     ·simp at h7;omega
   ·rw[bz,dx]
    refine⟨hGn,hnR,?_⟩
    intro a ha b2 hb2 hab
    obtain⟨x,hx,rfl⟩:=List.mem_map.1 ha
    obtain⟨y2,hy2,rfl⟩:=List.mem_map.1 hb2
    rcases hnew x hx with⟨o,ho⟩|h8
    ·exact hGR _ (List.mem_map.2 ⟨_,ho,U⟩) _ (List.mem_map.2 ⟨y2,hy2,U⟩) hab
    ·have:=hw2.lt (x:=y2) (by simp only[i6]at hy2⊢; exact .inr hy2)
     omega
   ·intro x hx
    rcases List.mem_append.1 hx with hx|hx
    ·rcases hnew x hx with⟨o,ho⟩|h8
     ·exact hw2.own (x.1,o) (by simp[ho])
     ·have:=hw2.size;exact .inr (by omega)
    ·exact hw2.own x (List.mem_append.2 (.inr hx))
   ·intro x hx
    rcases List.mem_append.1 hx with hx|hx
    ·exact hG' x hx
    ·rw[hkeep x.1 (hw2.lt (List.mem_append.2 (.inr hx))) ?_]
     ·exact hw2.holds x (List.mem_append.2 (.inr hx))
     ·intro o ho
      exact hGR _ (List.mem_map.2 ⟨_,ho,U⟩) _ (List.mem_map.2 ⟨x,hx,U⟩) U
  refine gP (v:=v') (w':=w') ?_ ⟨_,hA,G',hV',λh9=>?_,U⟩
  ·simp only[execOp,resolve,ay,ca,ar,invoke,builtin,dg,cq,dh,hue,hve,hrun]
  ·obtain⟨h10,h11⟩:=hnil.1 h9
   subst h10
   cases hv
   exact⟨U,h11⟩
end
section
variable {P:AL}{Γ:dJ}{k:fK}{e:bE}{H F:aF}{ops rest:List Oper}{d:AD}{op:Op}{t:AJ}{pos:String}{af:AG}{g:Option (Nat×Bool)}
 {need:AE} {pl:kB} {i:Nat}
def I0{K:AH->aF->Prop}(hop:dU Γ ⟨d,op,t,pos,af,g⟩ e H K)(hg:eS ops e ⟨d,op,t,pos,af,g⟩=true)(hd:eQ Γ.n d=true)
  (hk:∀v H',K v H'->L1 Γ ops rest k (e.put d v) H'):L1 Γ ops (⟨d,op,t,pos,af,g⟩::rest) k e H:=Ii hg hd hop hk
def Hx{v:AH}(hl:dL Γ.P e ⟨d,op,t,pos,af,g⟩=some v)(hg:eS ops e ⟨d,op,t,pos,af,g⟩=true)(hd:eQ Γ.n d=true)
  (h:L1 Γ ops rest k (e.put d v) H):L1 Γ ops (⟨d,op,t,pos,af,g⟩::rest) k e H:=E5 hl hg hd h
def l_b{b:Bool}(hl:dL Γ.P e ⟨d,op,t,pos,af,g⟩=some (.bool b))(hg:eS ops e ⟨d,op,t,pos,af,g⟩=true)(hd:eQ Γ.n d=true)
  (ht:b=true->L1 Γ ops rest k (e.put d (.bool true)) H) (hf:b=false->L1 Γ ops rest k (e.put d (.bool false)) H):L1 Γ ops (⟨d,op,t,pos,af,g⟩::rest) k e H:=aOe hl hg hd ht hf
def l_p(hg:eS ops e ⟨d,op,t,pos,af,g⟩=false)(hd:eQ Γ.n d=true)
  (h:L1 Γ ops rest k (e.put d undef) H):L1 Γ ops (⟨d,op,t,pos,af,g⟩::rest) k e H:=aLd hg hd h
def d_x{K:AH->aF->Prop}(ho:ops[i]? =some ⟨d,op,t,pos,af,g⟩)(hop:dU Γ ⟨d,op,t,pos,af,g⟩ e H K)(hg:eS ops e ⟨d,op,t,pos,af,g⟩=true)(hd:eQ Γ.n d=true)
  (hn:need.any (Nat.beq i)=true->∀v H',K v H'->∀x∈F,x∈H')
  (hk:∀v H',K v H'->L2 Γ ops (kH Γ F) need pl k (e.put d v) H'):L2 Γ ops (kH Γ F) need (.step false i pl) k e H:=
 aLw ho hg hd hop (λhx v H' _ hK hw=>⟨H',hw,hn hx v H' hK⟩) hk
def dQ{b:Nat}{l:AA}{T:AJ}{fr:Nat×Nat}{off:Nat}{v:AH}(hm:(b,Obj.cells l.toArray T fr)∈F)(hv:l[off]? =some v):
  ∀w,kH Γ F w->w.cell? ⟨b,off,none⟩=some v:=λw ⟨_,hw,hF⟩=>bT (hF _ hm) hv w hw
def gS{b off:Nat}{v:AH}(hc:Γ.w0.cell? ⟨b,off,none⟩=some v)(hb:b∉Γ.ms):∀w,kH Γ F w->w.cell? ⟨b,off,none⟩=some v:=
 λw ⟨_,hw,_⟩=>dN hc hb w hw
def jR{b:Nat}{l:AA}{T:AJ}{fr:Nat×Nat}(hm:(b,Obj.cells l.toArray T fr)∈F):∀w,kH Γ F w->aK w b 0 l:=λw ⟨_,hw,hF⟩=>aI (hF _ hm) w hw
def Wz{b off:Nat}{l:AA}(hr:aK Γ.w0 b off l)(hb:b∉Γ.ms):∀w,kH Γ F w->aK w b off l:=λw ⟨_,hw,_⟩=>bU hr hb w hw
def aAa{T:AJ}{x:AK}{b off:Nat}{v:AH}(ho:ops[i]? =some ⟨d,.load T x,t,pos,af,g⟩)(hx:bA (ev e x)=some (.pointer (some ⟨b,off,none⟩)))(hs:xR Γ.P T=true)
  (hc:∀w,kH Γ F w->w.cell? ⟨b,off,none⟩=some v)
  (hg:eS ops e ⟨d,.load T x,t,pos,af,g⟩=true) (hd:eQ Γ.n d=true)
  (h:L2 Γ ops (kH Γ F) need pl k (e.put d v) H):L2 Γ ops (kH Γ F) need (.step true i pl) k e H:=
 Iv ho hg hd (λw hS=>aCk hx hs (hc w (hS rfl))) h
def fZ{T:AJ}{x:AK}{b off:Nat}{l:AA}(ho:ops[i]? =some ⟨d,.load T x,t,pos,af,g⟩)(hx:bA (ev e x)=some (.pointer (some ⟨b,off,none⟩)))(hs:sG Γ.P T=true)(hn:jZ Γ.P T=some l.length)
  (hc:∀w,kH Γ F w->aK w b off l)
  (hg:eS ops e ⟨d,.load T x,t,pos,af,g⟩=true) (hd:eQ Γ.n d=true)
  (h:L2 Γ ops (kH Γ F) need pl k (e.put d (.agg l.toArray)) H):L2 Γ ops (kH Γ F) need (.step true i pl) k e H:=
 Iv ho hg hd (λw hS=>aFq hx hs hn (hc w (hS rfl))) h
def eN{f:Nat}{l:AF}{ts:Array AJ}{vs:AA}(hc:iW Γ.P f=true)(hv:lA e l=some vs){R:AH->aF->Prop}
  (hf:∀w,St Γ.w0 Γ.ms H w->aG Γ.P f vs w [] R):
  dU Γ ⟨d,.call ⟨.value (.func f),l.toArray,ts⟩,t,pos,af,g⟩ e H (λv H2=>∃H',R v H'/\H2=H'++H):=
 λw hw=>aDc (F:=[]) (G:=H) [] hc hv hw (by simp) (hf w hw) λ_ _ _ h1 _ h2=>⟨_,h2,_,h1,rfl⟩
def kP{A G:aF}{f:Nat}{l:AF}{ts:Array AJ}{vs:AA}(ms2:AE)(hc:iW Γ.P f=true)(hv:lA e l=some vs){R:AH->aF->Prop}
  (hms:∀b∈ms2,∃o,(b,o)∈A) (hf:∀w,St Γ.w0 Γ.ms (A++G) w->aG Γ.P f vs w ms2 R):
  dU Γ ⟨d,.call ⟨.value (.func f),l.toArray,ts⟩,t,pos,af,g⟩ e (A++G) (λv H2=>∃H',R v H'/\H2=H'++G):=
 λw hw=>aDc (F:=A) (G:=G) ms2 hc hv hw hms (hf w hw) λ_ _ _ h1 _ h2=>⟨_,h2,_,h1,rfl⟩
def C7{x y:AK}{ts:Array AJ}{tx ty el:AJ}{b off dl dc m:Nat}{u:AH}{l ys:AA}{T:AJ}(i:Nat)
  (hx:bA (ev e x)=some (.slice (some ⟨b,off,none⟩) dl dc)) (hy:ev e y=u) (hts:ts= #[tx,ty]) (hu:qV Γ.P tx=some (el,1))
  (hi:H[i]? =some (b,J l T)) (hs:∀w,St Γ.w0 Γ.ms H w->vA w 1 u m ys) (h1:fJ ys=true) (hl:off+min m dl<=l.length):
  dU Γ ⟨d,.call ⟨.builtin .copy,#[x,y],ts⟩,t,pos,af,g⟩ e H (λv H'=>v= .int .i64 (min m dl:Nat)/\H'=H.set i (b,J (aV l off (ys.take (min m dl))) T)):=by
 intro w hw
 subst hts hy
 obtain⟨g1,g2⟩:=wL hu
 have hx:=bM hx
 have hg:w.heap[b]? =some (J l T):=hw.own_blk (cr hi)
 have hs':=hs w hw
 generalize hue:ev e y=u at hs'
 cases hs' with
 |row b2 off2 m c ys hn hr=>
  have hlen:(ys.take (min m dl)).length=min m dl:=by rw[f2];omega
  have hrun:=run_copy_row (P:=Γ.P) w tx ty t el b off dl dc ⟨b2,off2,none⟩ m c l.toArray T (ys.take (min m dl)) g1 g2 hg (by rw[hlen])
   (λj v hv=>hr.add j v (by
    rw[fe]at hv
    split at hv
    ·exact hv
    ·cases hv)) (by rw[hlen];simpa using hl) (λv hv=>by
    have:=dd hv
    exact List.all_eq_true.1 h1 v this)
  rw[hlen]at hrun
  refine gP (v:= .int .i64 (min m dl:Nat)) (w':=w.setRow b (aV l off (ys.take (min m dl))).toArray) ?_ ⟨_,?_,U,U⟩
  ·have e1:aV l off (ys.take (min m dl))=l.take off++ys.take (min m dl)++l.drop (off+min m dl):=by rw[aV,hlen]
   rw[e1]
   simp only[execOp,resolve,ay,ca,ar,invoke,builtin,dg,cq,dh,hx,hue,hrun]
   rfl
  ·exact hw.setAt hi U U U (by simp[World.setRow]) (λk hk=>setRow_other w b k _ hk) (setRow_heap w b _ _ T _ hg)
def yE{s:Nat}{w:AI}{v:AH}(h:bA (e s)=some v):kS P [.tmp s] e w v:=Jw (bM h)
def dX{s u:Nat}{w:AI}{v1 v2:AH}(h1:bA (e s)=some v1)(h2:bA (e u)=some v2):kS P [.tmp s,.tmp u] e w (.tuple #[v1,v2]):=nJ (bM h1) (bM h2)
def aDe{s u r:Nat}{w:AI}{v1 v2 v3:AH}(h1:bA (e s)=some v1)(h2:bA (e u)=some v2)(h3:bA (e r)=some v3):kS P [.tmp s,.tmp u,.tmp r] e w (.tuple #[v1,v2,v3]):=aFu (bM h1) (bM h2) (bM h3)
def eL{a b:Nat}{T:AJ}{l:AA}{w:AI}(h:bA (e a)=some (.pointer (some ⟨b,0,none⟩)))(hs:sG P T=true)(hn:jZ P T=some l.length)(hr:aK w b 0 l):
  kS P [.cell a T] e w (.agg l.toArray):=by
 have h:=bM h
 have hl:=run_loadCells_list (P:=P) w ⟨b,0,none⟩ l hr.add
 simp[kS,vW,h,asAddr,loadVar,ay,Fx hs,vC hn,hl]
def fN{a b s:Nat}{T:AJ}{l:AA}{v:AH}{w:AI}(h:bA (e a)=some (.pointer (some ⟨b,0,none⟩)))(hs:sG P T=true)(hn:jZ P T=some l.length)(hr:aK w b 0 l)(h2:bA (e s)=some v):
  kS P [.cell a T,.tmp s] e w (.tuple #[.agg l.toArray,v]):=by
 have h:=bM h
 have hl:=run_loadCells_list (P:=P) w ⟨b,0,none⟩ l hr.add
 have h2:=bM h2
 simp[kS,vW,h,h2,asAddr,loadVar,ay,Fx hs,vC hn,hl]
def iM{Γ:dJ}{rs:List ResultVar}{R:AH->aF->Prop}{H':aF}{v:AH}(hr:∀w,St Γ.w0 Γ.ms H w->kS Γ.P rs e w v)
  (hh:H'.Sublist H) (h:R v H'):rW Γ rs R e H:=lN hr (λ_ hw=>hw.sub hh) h
def aU{Γ:dJ}{rs:List ResultVar}{R:AH->aF->Prop}{v:AH}(hr:∀w,St Γ.w0 Γ.ms H w->kS Γ.P rs e w v)(h:R v []):rW Γ rs R e H:=iM hr (ed _) h
end
section
variable {ops:Array Oper}{md:Region.Mode}{need:Nat->Bool}
def Nt(md:Region.Mode)(anc:AE)(l:List Edge):Nat:=l.foldr (λe m=>bif Region.binds md e then Nat.lor (Nat.lor m (1 <<< e.on)) (anc.getD e.on 0)else m) 0
def Sn(md:Region.Mode)(ops:Array Oper)(anc:AE):Bool:=
 (List.range ops.size).all λj=>match ops[j]? with
  |some oj=>Nat.beq (anc.getD j 0) (Nt md anc oj.after.toList)&&oj.after.toList.all λe=> !Region.binds md e||Nat.blt e.on j
  |none=>true
def aFP{anc:AE}{i:Nat}:∀{l:List Edge},(Nt md anc l).testBit i=true->∃e∈l,Region.binds md e=true/\(e.on=i\/(anc.getD e.on 0).testBit i=true)
 | [],h=>by simp[Nt]at h
 |e::l,h=>by
  have ih:=aFP (anc:=anc) (i:=i) (l:=l)
  simp only[Nt,List.foldr_cons]at h ih
  cases hb:Region.binds md e
  ·rw[hb,cond_false]at h
   obtain⟨x,hx,h2⟩:=ih h
   exact⟨x,.tail _ hx,h2⟩
  ·rw[hb,cond_true]at h
   have h3:(List.foldr (λe m=>bif Region.binds md e then Nat.lor (Nat.lor m (1 <<< e.on)) (anc.getD e.on 0)else m) 0 l ||| (1 <<< e.on) ||| (anc.getD e.on 0)).testBit i=true:=h
   rw[Nat.testBit_or,Nat.testBit_or,fm,fm]at h3
   rcases h3 with(h3|h3)|h3
   ·obtain⟨x,hx,h2⟩:=ih h3
    exact⟨x,.tail _ hx,h2⟩
   ·refine⟨e,.head _,hb,.inl ?_⟩
    rw[gv]at h3
    simp only[ax,ak]at h3
    have h4:i-e.on=0:=by
     rcases d6 (i-e.on)with h5|h5
     ·exact h5
     ·have:=h3.2
      rw[Nat.testBit_one_eq_true_iff_self_eq_zero]at this
      exact this
    omega
   ·exact⟨e,.head _,hb,.inr h3⟩
def M0{i:Nat}:∀{f g j:Nat},f<=g->qS md ops i f j=true->qS md ops i g j=true
 |0,_,_,_,h=>by simp[qS]at h
 |f+1,0,_,hle,_=>by omega
 |f+1,g+1,j,hle,h=>by
  simp only[qS]at h⊢
  split at h
  ·rename_i oj hoj
   obtain⟨e,he,hb⟩:=Array.any_eq_true'.1 h
   refine Array.any_eq_true'.2 ⟨e,he,?_⟩
   simp only[ax,fm]at hb⊢
   exact⟨hb.1,hb.2.imp id λh2=>M0 (by omega) h2⟩
  ·cases h
def aAt{anc:AE}(hA:Sn md ops anc=true){i:Nat}:∀(n j:Nat),j<n->j<ops.size->(anc.getD j 0).testBit i=true->qS md ops i (j+1) j=true
 |0,_,h,_,_=>by omega
 |n+1,j,hj,hs,hb=>by
  have h1:=List.all_eq_true.1 hA j (List.mem_range.2 hs)
  have hoj:ops[j]? =some ops[j]:=by simp[hs]
  rw[hoj]at h1
  simp only[ax]at h1
  obtain⟨h2,h3⟩:=h1
  rw[ci h2]at hb
  obtain⟨e,he,hbe,hor⟩:=aFP hb
  have h4:=List.all_eq_true.1 h3 e he
  rw[hbe,jq,Bool.false_or]at h4
  have hlt:e.on<j:=by simpa[Nat.blt_eq] using h4
  simp only[qS,hoj]
  refine Array.any_eq_true'.2 ⟨e,by simpa using he,?_⟩
  rw[hbe,gm,fm]
  rcases hor with rfl|hor
  ·exact .inl (by simp)
  ·exact .inr (M0 (by omega) (aAt hA n e.on (by omega) (by omega) hor))
def aBK(ops:Array Oper)(need:Nat->Bool)(anc:AE)(listed:Array Bool)(i:Nat):Bool:=
 (List.range ops.size).all λj=>Nat.beq j i||need j||(anc.getD j 0).testBit i||listed.getD j true
def aIC{anc:AE}(hA:Sn md ops anc=true){listed:Array Bool}{i:Nat}(h:aBK ops need anc listed i=true):My md ops need listed i=true:=by
 refine List.all_eq_true.2 λj hj=>?_
 have h1:=List.all_eq_true.1 h j hj
 have hs:=List.mem_range.1 hj
 simp only[fm]at h1⊢
 rcases h1 with((h1|h1)|h1)|h1
 ·exact .inl (.inl (.inl (by rw[ci h1];simp)))
 ·exact .inr h1
 ·exact .inl (.inr (M0 (by omega) (aAt hA (j+1) j (by omega) hs h1)))
 ·exact .inl (.inl (.inr h1))
def uQ(md:Region.Mode)(ops:Array Oper)(need:Nat->Bool)(anc:AE):kB->Nat->Bool->Array Bool->Bool->Bool
 | .done,_,top,listed,_=>top&&(Region.ready md ops listed).isEmpty
 | .step true i r,fuel+1,top,listed,s=>top&&(!(Yk ops i)||(s&&aBK ops need anc listed i))&&(Region.ready md ops listed).contains i&&Region.free md ops listed i&&uQ md ops need anc r fuel true (listed.setIfInBounds i true) s
 | .step false i r,fuel+1,top,listed,s=>top&&(Region.ready md ops listed==[i])&&uQ md ops need anc r fuel true (listed.setIfInBounds i true) (s&&need i)
 | .fork i r o,fuel+1,top,listed,s=>(!top||Region.ready md ops listed==i::o.heads)&&(Region.ready md ops listed).contains i&&uQ md ops need anc r fuel true (listed.setIfInBounds i true) (s&&need i)&&uQ md ops need anc o (fuel+1) false listed s
 | .stop,_,top,_,_=> !top
 | .step _ _ _,0,_,_,_=>false
 | .fork _ _ _,0,_,_,_=>false
def Jx{anc:AE}(hA:Sn md ops anc=true):∀(pl:kB) (fuel:Nat) (top:Bool) (listed:Array Bool) (s:Bool),uQ md ops need anc pl fuel top listed s=true->mD md ops need pl fuel top listed s=true
 | .done,_,_,_,_,h=>h
 | .stop,_,_,_,_,h=>h
 | .step true i r,fuel+1,top,listed,s,h=>by
  simp only[uQ,mD,ax,fm]at h⊢
  exact⟨⟨⟨⟨h.1.1.1.1,h.1.1.1.2.imp id λh2=>⟨h2.1,aIC hA h2.2⟩⟩,h.1.1.2⟩,h.1.2⟩,Jx hA r fuel _ _ _ h.2⟩
 | .step false i r,fuel+1,top,listed,s,h=>by
  simp only[uQ,mD,ax]at h⊢
  exact⟨h.1,Jx hA r fuel _ _ _ h.2⟩
 | .fork i r o,fuel+1,top,listed,s,h=>by
  simp only[uQ,mD,ax]at h⊢
  exact⟨⟨h.1.1,Jx hA r fuel _ _ _ h.1.2⟩,Jx hA o (fuel+1) _ _ _ h.2⟩
 | .step true _ _,0,_,_,_,h=>by simp[uQ]at h
 | .step false _ _,0,_,_,_,h=>by simp[uQ]at h
 | .fork _ _ _,0,_,_,_,h=>by simp[uQ]at h
end
section
variable {Γ:dJ}{k:fK}{e:bE}{H:aF}
def aII{id:Nat}{l:List Oper}(F:aF)(need anc:AE)(pl:kB)(hm:Γ.P.follows .mixedOrders=true)(hs:Tl l.toArray=true)(hA:Sn .any l.toArray anc=true)
  (hB:uQ .any l.toArray (λi=>need.any (Nat.beq i)) anc pl l.toArray.size true (Array.replicate l.toArray.size false) true=true)
  (hF:∀x∈F,x∈H) (h:L2 Γ l (kH Γ F) need pl k e H):C Γ (.region id l.toArray true) k e H:=
 nH F need pl hm hs (Jx hA pl _ _ _ _ hB) hF h
end
def Bl{α:Type}:List α->Option (List α)
 | []=>some []
 |x::r=>match Bl r with
  |some r'=>some (x::r')
  |none=>none
def Xr{α:Type}:∀{l l':List α},Bl l=some l'->l=l'
 | [],_,h=>by cases h;rfl
 |x::r,l',h=>by
  simp only[Bl]at h
  split at h
  ·rename_i r' hr
   cases h
   rw[Xr hr]
  ·cases h
def Ms(off:Nat):AA->Nat->AA->AA
 | [],_,l=>l
 |v::vs,j,l=>Ms off vs (j+1) (l.set (off+j) v)
def Cy(place:Nat->Option (Nat×Nat))(l:AA):List (Nat×AH)->Option (List AH)
 | []=>Bl l
 |(i,v)::rest=>
  match place i,Ak v with
  |some (off,size),some vs=>bif Nat.beq vs.length size&&Nat.ble (off+vs.length) l.length then Cy place (Ms off vs 0 l) rest else none
  |_,_=>none
def aBg(off:Nat):∀(vs:AA) (j:Nat) (l:AA),
  (Ms off vs j l).toArray=(vs.zipIdx j).foldl (λ(cs:Array AH) (c:AH×Nat)=>cs.setIfInBounds (off+c.2) c.1) l.toArray
 | [],_,_=>rfl
 |v::vs,j,l=>by
  simp only[Ms,List.zipIdx_cons,i7]
  rw[aBg off vs (j+1) _]
  congr 1
  simp
def Qp{place:Nat->Option (Nat×Nat)}:∀{ps:List (Nat×AH)} {l l':AA},Cy place l ps=some l'->Instr.fill place l.toArray ps=some l'.toArray
 | [],l,l',h=>by
  simp only[Cy]at h
  rw[Xr h]
  rfl
 |(i,v)::rest,l,l',h=>by
  simp only[Cy]at h
  split at h
  ·rename_i off size vs hp hv
   have hc:=Hv hv
   by_cases hb:(Nat.beq vs.length size&&Nat.ble (off+vs.length) l.length)=true
   ·rw[hb,cond_true]at h
    simp only[ax]at hb
    have h1:=ci hb.1
    have h2:=ah hb.2
    have h3:=Qp h
    simp only[Instr.fill,hp,hc,ju]
    rw[ae (by simp[h1];omega)]
    rw[<-h3]
    congr 1
    rw[aBg]
    simp
   ·simp only[fh]at hb
    rw[hb,cond_false]at h
    cases h
  ·cases h
section
variable {Γ:dJ}{e:bE}{H:aF}{d:AD}{ty:AJ}{pos:String}{af:AG}{g:Option (Nat×Bool)}
def Hk(e:bE):List (Nat×AK)->Option (List (Nat×AH))
 | []=>some []
 |(i,x)::r=>match bA (ev e x),Hk e r with
  |some v,some vs=>some ((i,v)::vs)
  |_,_=>none
def Wc{e:bE}:∀{l:List (Nat×AK)} {vs:List (Nat×AH)},Hk e l=some vs->l.map (λp=>(p.1,ev e p.2))=vs
 | [],_,h=>by cases h;rfl
 |(i,x)::r,vs,h=>by
  simp only[Hk]at h
  split at h
  ·rename_i v us h1 h2
   cases h
   simp only[cq,bM h1,Wc h2]
  ·cases h
def mS(n:Nat)(z:AA):AA:=(List.range n).map (λi=>z.getD (i%z.length) default)
def Xs(n:Nat)(z:AA):(Array.range n).map (z.toArray[· %z.toArray.size]!)=(mS n z).toArray:=by
 apply Array.ext
 ·simp[mS]
 ·intro i h1 h2
  simp only[mS,Array.getElem_map,Array.getElem_range,List.getElem_toArray,List.getElem_map,List.getElem_range,ju,getElem!_def,dr,da]
  cases z[i%z.length]? <;>rfl
def fY{t el:AJ}{len n:Nat}{parts:List (Nat×AK)}{ps:List (Nat×AH)}{l:AA}{z:AA}
  (hu:qV Γ.P t=some (el,n)) (hp:Hk e parts=some ps) (hsm:Nat.ble (len*n) 16777216=true) (hpos:Nat.ble 1 (len*n)=true)
  (hz:uR Γ.P el=some z) (hf:Cy (λi=>some (i*n,n)) (mS (len*n) z) ps=some l):
  dU Γ ⟨d,.buildSlice t len parts.toArray,ty,pos,af,g⟩ e H (λu H'=>∃b,u= .slice (some ⟨b,0,none⟩) len len/\H'=(b,J l el)::H):=by
 obtain⟨h1,h2⟩:=wL hu
 refine aQp h1 (ps:=ps) ?_ h2 hsm hpos hz ?_
 ·have:=Wc hp
  simpa using this
 ·rw[Xs]
  exact Qp hf
def La(P:AL):List Field->Option (List (Nat×Nat))
 | []=>some []
 |f::r=>match jZ P f.type,La P r with
  |some s,some ps=>some ((f.offset,s)::ps)
  |_,_=>none
def aAC(P:AL)(t:AJ):Option (List (Nat×Nat)):=
 match P.underlying t with
 |some (.struct ⟨fs⟩)=>La P fs
 |_=>none
def aIR{P:AL}:∀{fs:List Field} {ps:List (Nat×Nat)},La P fs=some ps->
  ∀{α:Type} (f:Array (Nat×Nat)->Sem α),eO P (fs.toArray.mapM (λf=>do pure (f.offset,<-sizeOf f.type)) >>= f)=eO P (f ps.toArray):=by
 intro fs
 have key:∀(fs:List Field) (ps:List (Nat×Nat)),La P fs=some ps->∀{α:Type} (f:List (Nat×Nat)->Sem α),eO P ((fs.mapM (λf=>(do pure (f.offset,<-sizeOf f.type):Sem (Nat×Nat)))) >>= f)=eO P (f ps):=by
  intro fs
  induction fs with
  |nil=>intro ps h α f;cases h;simp
  |cons x r ih=>
   intro ps h α f
   simp only[La]at h
   split at h
   ·rename_i s ps' h1 h2
    cases h
    simp only[List.mapM_cons,bind_assoc,vQ h1,pure_bind]
    rw[ih ps' h2]
   ·cases h
 intro ps h α f
 have h1:=key fs ps h (λl=>f l.toArray)
 rw[<-h1]
 simp[List.mapM_toArray]
def qJ{t:AJ}{parts:List (Nat×AK)}{ps:List (Nat×AH)}{l z:AA}{pl:List (Nat×Nat)}
  (hu:aAC Γ.P t=some pl) (hz:uR Γ.P t=some z) (hp:Hk e parts=some ps) (hf:Cy (λi=>pl[i]?) z ps=some l):
  dL Γ.P e ⟨d,.build t parts.toArray,ty,pos,af,g⟩=some (.agg l.toArray):=by
 refine iY ?_ U
 unfold aAC at hu
 split at hu
 ·rename_i fs h1
  have hpp:=Wc hp
  have hfl:=Qp hf
  have hzz:∀{α:Type} (f:AH->Sem α),∃zv:AH,zv.cells=z.toArray/\eO Γ.P (zeroValue t >>= f)=eO Γ.P (f zv):=by
   intro α f
   unfold uR at hz
   split at hz
   ·rename_i i hi
    split at hz
    ·rename_i zv hzv
     refine⟨zv,Hv hz,?_⟩
     simp[zeroValue,typeInfo,program,bind,Sem.bind,eO,hi,hzv,pure]
    ·cases hz
   ·cases hz
  simp only[execOp,Instr.build,bind_assoc]
  obtain⟨zv,hzc,hzr⟩:=hzz (λzero=>underlying t >>= λd=>_)
  rw[hzr,nA h1]
  simp only[bind_assoc]
  rw[aIR hu]
  have h9:((List.toArray parts).map λ(i,x)=>(i,ev e x)).toList=ps:=by simpa using hpp
  simp only[h9,hzc,dr,hfl]
  rfl
 ·cases hu
def aAL(P:AL)(t f:Nat):AD:=
 match P.underlying t with
 |some (.struct ⟨fs⟩)=>match fs[f]? with
  |some ⟨_,ft,o,_,_,_,_⟩=>match jZ P ft with
   |some (_+1)=>some o
   |_=>none
  |none=>none
 |_=>none
def Gc{t f o b off:Nat}{x:AK}(hu:aAL Γ.P t f=some o)(hx:bA (ev e x)=some (.pointer (some ⟨b,off,none⟩))):
  dL Γ.P e ⟨d,.fieldAddr t x f,ty,pos,af,g⟩=some (.pointer (some ⟨b,off+o,none⟩)):=by
 refine iY ?_ U
 have hx:=bM hx
 unfold aAL at hu
 split at hu
 ·rename_i fs h1
  split at hu
  ·rename_i nm ft o' em tg pp bo h2
   split at hu
   ·rename_i k h3
    cases hu
    have h4:(fs.toArray)[f]? =some ⟨nm,ft,o,em,tg,pp,bo⟩:=by simpa using h2
    simp only[execOp,Instr.fieldAt,bind_assoc,nA h1,h4,hx,Instr.sureAddr,rU,fieldPlace,vQ h3]
    simp[yN,eO,pure,bind,Sem.bind]
   ·cases hu
  ·cases hu
 ·cases hu
def aFy(P:AL)(t f:Nat):Option (Nat×Nat):=
 match P.underlying t with
 |some (.struct ⟨fs⟩)=>match fs[f]? with
  |some ⟨_,ft,o,_,_,_,_⟩=>some (ft,o)
  |none=>none
 |_=>none
def Ov{t f ft o:Nat}{x:AK}{l:AA}{v u:AH}(hu:aFy Γ.P t f=some (ft,o))(hs:xR Γ.P ft=true)(hx:bA (ev e x)=some (.agg ⟨l⟩))(hv:l[o]? =some u)(hw:bA u=some v):
  dL Γ.P e ⟨d,.field t x f,ty,pos,af,g⟩=some v:=by
 have hn:=bM hw
 subst hn
 refine iY ?_ hw
 have hx:=bM hx
 unfold aFy at hu
 split at hu
 ·rename_i fs h1
  split at hu
  ·rename_i nm ft' o' em tg pp bo h2
   cases hu
   have h4:(fs.toArray)[f]? =some ⟨nm,ft,o,em,tg,pp,bo⟩:=by simpa using h2
   have h5:∀{α:Type} (K:Bool->Sem α),eO Γ.P (isAgg ft >>= K)=eO Γ.P (K false):=by
    intro α K
    unfold xR at hs
    split at hs<;>try cases hs
    rename_i D hd1 hd2 hd
    simp only[isAgg,bind_assoc,nA hd]
    cases D<;>first|rfl|(exfalso;exact hd1 _ rfl)|(exfalso;exact hd2 _ _ rfl)
   simp only[execOp,Instr.field,bind_assoc,nA h1,h4,hx,asAgg,rU,part,h5]
   have h6:(Array.mk l)[o]? =some u:=by simpa using hv
   simp[h6,eO,pure,bind,Sem.bind]
  ·cases hu
 ·cases hu
end
end Go.VV
namespace Go.VV
open Go
def bZ{n:Int}(h1: -9223372036854775808<=n)(h2:n<=9223372036854775807):IntKind.i64.wrap n=n:=by
 simp[IntKind.wrap,IntKind.bits,IntKind.signed];omega
def nW(n:Int):IntKind.u8.wrap n=n%256:=by
 simp[IntKind.wrap,IntKind.bits,IntKind.signed]
def qC(n:Int):IntKind.u16.wrap n=n%65536:=by
 simp[IntKind.wrap,IntKind.bits,IntKind.signed]
def J9(n:Int):IntKind.u64.wrap n=n%18446744073709551616:=by
 simp[IntKind.wrap,IntKind.bits,IntKind.signed]
def Ib{n:Int}(h1:0<=n)(h2:n<256):IntKind.u8.wrap n=n:=by rw[nW];omega
def tW{n:Int}(h1:0<=n)(h2:n<65536):IntKind.u16.wrap n=n:=by rw[qC];omega
def qB{n:Int}(h1:0<=n)(h2:n<18446744073709551616):IntKind.u64.wrap n=n:=by rw[J9];omega
def eU{k:Nat}(h:(k:Int)<9223372036854775807):IntKind.i64.wrap ((k:Int)+1)=((k+1:Nat):Int):=by
 rw[bZ (by omega) (by omega)];simp
def aQ(k:AM)(x y:Int):Int:=k.wrap (BitVec.ofInt k.bits x &&& BitVec.ofInt k.bits y).toNat
def bI(k:AM)(x y:Int):Int:=k.wrap (BitVec.ofInt k.bits x ||| BitVec.ofInt k.bits y).toNat
def lK(k:AM)(x y:Int):Int:=k.wrap (BitVec.ofInt k.bits x ^^^ BitVec.ofInt k.bits y).toNat
def lD(k:AM)(x y:Int):Int:=k.wrap (BitVec.ofInt k.bits x &&& ~~~BitVec.ofInt k.bits y).toNat
def shr(k:AM)(x y:Int):Int:=x.fdiv (2^min y.toNat k.bits)
def shl(k:AM)(x y:Int):Int:=k.wrap (x*2^min y.toNat k.bits)
def eI{p:Int->Prop}(h:∀n:Fin 256,p (n.val:Int)){c:Int}(h1:0<=c)(h2:c<256):p c:=by
 have:=h ⟨c.toNat,by omega⟩
 simp only at this
 rwa[dw h1]at this
def Ns(w:AI)(k:AM)(a:AC)(l:AB):Prop:=0<l.length->∃b off,a=some ⟨b,off,none⟩/\aK w b off (l.map (.int k))
def Ns.nil(w:AI)(k:AM)(a:AC):Ns w k a []:=λh=>by simp at h
def Ns.row{w:AI}{k:AM}{a:AC}{l:AB}(h:Ns w k a l){i:Nat}(hi:i<l.length):∃b off,a=some ⟨b,off,none⟩/\aK w b off (l.map (.int k)):=h (by omega)
def Ns.of{w:AI}{k:AM}{b off:Nat}{l:AB}(h:aK w b off (l.map (.int k))):Ns w k (some ⟨b,off,none⟩) l:=λ_=>⟨b,off,rfl,h⟩
def Ns.later{w0 w:AI}{ms:AE}{H:aF}{k:AM}{a:AC}{l:AB}(h:Ns w0 k a l)(hm:∀p,a=some p->p.block∉ms)(hw:St w0 ms H w):Ns w k a l:=λhl=>by
 obtain⟨b,off,rfl,hr⟩:=h hl
 exact⟨b,off,U,bU hr (hm _ U) w hw⟩
def Ns.later0{w0 w:AI}{H:aF}{k:AM}{a:AC}{l:AB}(h:Ns w0 k a l)(hw:St w0 [] H w):Ns w k a l:=h.later (by simp) hw
def aK.int{w:AI}{k:AM}{b off:Nat}{l:AB}(h:aK w b off (l.map (.int k))){i:Nat}(hi:i<l.length):w.cell? ⟨b,off+i,none⟩=some (.int k (l.getD i 0)):=
 h i _ (by simp[hi])
def kX(k:AM)(l:AB):fJ (l.map (.int k))=true:=by simp[fJ,Value.oneCell']
def aJQ{l l':AA}(h:fJ l=true)(hs:∀x∈l',x∈l):fJ l'=true:=List.all_eq_true.2 λx hx=>List.all_eq_true.1 h x (hs x hx)
def aGg(k:AM)(l:AB)(i n:Nat):fJ (((l.map (Value.int k)).drop i).take n)=true:=aJQ (kX k l) λ_ hx=>dm (dd hx)
def bF(l:AB):Prop:=∀x∈l,0<=x/\x<256
def bF.get{l:AB}(h:bF l)(i:Nat):0<=l.getD i 0/\l.getD i 0<256:=by
 by_cases hi:i<l.length
 ·rw[da,ap hi];exact h _ (fi hi)
 ·rw[da,d7 (by omega)];simp
section
variable {P:AL}{e:bE}{d:AD}{ty t u:AJ}{pos:String}{af:AG}{g:Option (Nat×Bool)}{x y:AK}{k:AM}{a b:Int}
def tK(hx:bA (ev e x)=some (.int k a))(hy:bA (ev e y)=some (.int k b))(hb:b≠0):
  dL P e ⟨d,.binOp .rem t x y u,ty,pos,af,g⟩=some (.int k (a.tmod b)):=by
 refine iY ?_ U
 simp[execOp,eqGuard,bM hx,bM hy,binOp,Op.intDiv,hb,eO,bind,Sem.bind,pure]
def aDE(hx:bA (ev e x)=some (.int k a))(hy:bA (ev e y)=some (.int k b))(hb:b≠0):
  dL P e ⟨d,.binOp .quo t x y u,ty,pos,af,g⟩=some (.int k (k.wrap (a.tdiv b))):=by
 refine iY ?_ U
 simp[execOp,eqGuard,bM hx,bM hy,binOp,Op.intDiv,hb,eO,bind,Sem.bind,pure]
def jB{k2:AM}(hx:bA (ev e x)=some (.int k a))(hy:bA (ev e y)=some (.int k2 b))(hb:0<=b):
  dL P e ⟨d,.binOp .shr t x y u,ty,pos,af,g⟩=some (.int k (shr k a b)):=by
 refine iY ?_ U
 have:¬b<0:=by omega
 simp[execOp,eqGuard,bM hx,bM hy,binOp,Op.shift,this,eO,bind,Sem.bind,pure,shr]
def iK{k2:AM}(hx:bA (ev e x)=some (.int k a))(hy:bA (ev e y)=some (.int k2 b))(hb:0<=b):
  dL P e ⟨d,.binOp .shl t x y u,ty,pos,af,g⟩=some (.int k (shl k a b)):=by
 refine iY ?_ U
 have:¬b<0:=by omega
 simp[execOp,eqGuard,bM hx,bM hy,binOp,Op.shift,this,eO,bind,Sem.bind,pure,shl]
def Oh(P:AL)(t:AJ):Bool:=match P.underlying t with
 |some (.slice _)=>true
 |_=>false
def W9{a:AC}{n c:Nat}(hx:bA (ev e x)=some (.slice a n c))(hu:Oh P t=true):
  dL P e ⟨d,.call ⟨.builtin .len,#[x],#[t]⟩,ty,pos,af,g⟩=some (.int .i64 n):=by
 refine iY ?_ U
 have hx:=bM hx
 unfold Oh at hu
 split at hu
 ·rename_i el h1
  simp only[execOp,resolve,dg,cq,dh,hx,rU,invoke,builtin,Builtin.len_,bind_assoc,dr,fk,nA h1]
  rfl
 ·cases hu
def aPo{s:ByteArray}(hx:bA (ev e x)=some (.string s))(hu:P.underlying t=some .string):
  dL P e ⟨d,.call ⟨.builtin .len,#[x],#[t]⟩,ty,pos,af,g⟩=some (.int .i64 s.size):=by
 refine iY ?_ U
 have hx:=bM hx
 simp only[execOp,resolve,dg,cq,dh,hx,rU,invoke,builtin,Builtin.len_,bind_assoc,dr,fk,nA hu]
 rfl
def tD{k2:AM}{ts:Array AJ}(hx:bA (ev e x)=some (.int k a))(hy:bA (ev e y)=some (.int k2 b)):
  dL P e ⟨d,.call ⟨.builtin .min,#[x,y],ts⟩,ty,pos,af,g⟩=some (.int k (min a b)):=by
 refine iY ?_ U
 have hx:=bM hx
 have hy:=bM hy
 have hm:(if b<a then b else a)=min a b:=by omega
 simp only[execOp,resolve,dg,cq,dh,hx,hy,rU,invoke,builtin,Builtin.min_,bind_assoc,List.foldlM_cons,List.foldlM_nil,Builtin.min2,hm]
 rfl
def Ec{k2:AM}{ts:Array AJ}(hx:bA (ev e x)=some (.int k a))(hy:bA (ev e y)=some (.int k2 b)):
  dL P e ⟨d,.call ⟨.builtin .max,#[x,y],ts⟩,ty,pos,af,g⟩=some (.int k (max a b)):=by
 refine iY ?_ U
 have hx:=bM hx
 have hy:=bM hy
 have hm:(if b>a then b else a)=max a b:=by omega
 simp only[execOp,resolve,dg,cq,dh,hx,hy,rU,invoke,builtin,Builtin.max_,bind_assoc,List.foldlM_cons,List.foldlM_nil,Builtin.max2,hm]
 rfl
end
section
variable {P:AL}{Γ:dJ}{k:fK}{e:bE}{H F:aF}{ops rest:List Oper}{d:AD}{op:Op}{t:AJ}{pos:String}{af:AG}{g:Option (Nat×Bool)}
 {need:AE} {pl:kB} {i:Nat}
def fX{b:Bool}(c:Bool)(hl:dL Γ.P e ⟨d,op,t,pos,af,g⟩=some (.bool b))(hg:eS ops e ⟨d,op,t,pos,af,g⟩=true)(hd:eQ Γ.n d=true)(hb:b=c)
  (h:L1 Γ ops rest k (e.put d (.bool c)) H):L1 Γ ops (⟨d,op,t,pos,af,g⟩::rest) k e H:=by subst hb;exact Hx hl hg hd h
def vB{b:Bool}{S:AI->Prop}(c:Bool)(ho:ops[i]? =some ⟨d,op,t,pos,af,g⟩)(hl:dL Γ.P e ⟨d,op,t,pos,af,g⟩=some (.bool b))(hg:eS ops e ⟨d,op,t,pos,af,g⟩=true)(hd:eQ Γ.n d=true)(hb:b=c)
  (h:L2 Γ ops S need pl k (e.put d (.bool c)) H):L2 Γ ops S need (.step true i pl) k e H:=by subst hb;exact Dt ho hl rfl hg hd h
def oQ{c:AK}{x y:Code}{t:Bool}(b:Bool)(hc:ev e c= .bool t)(hb:t=b)(h:C Γ (if b then x else y) k e H):C Γ (.cond c x y) k e H:=by
 subst hb
 exact Pc hc (λht=>by rw[ht]at h;exact h) (λht=>by rw[ht]at h;exact h)
def aLI{v u:AH}(hl:dL Γ.P e ⟨d,op,t,pos,af,g⟩=some u)(hg:eS ops e ⟨d,op,t,pos,af,g⟩=true)(hd:eQ Γ.n d=true)(hv:u=v)
  (h:L1 Γ ops rest k (e.put d v) H):L1 Γ ops (⟨d,op,t,pos,af,g⟩::rest) k e H:=by subst hv;exact Hx hl hg hd h
def aMp{v u:AH}{S:AI->Prop}(ho:ops[i]? =some ⟨d,op,t,pos,af,g⟩)(hl:dL Γ.P e ⟨d,op,t,pos,af,g⟩=some u)(hu:Br u=true)(hg:eS ops e ⟨d,op,t,pos,af,g⟩=true)(hd:eQ Γ.n d=true)(hv:u=v)
  (h:L2 Γ ops S need pl k (e.put d v) H):L2 Γ ops S need (.step true i pl) k e H:=by subst hv;exact Dt ho hl hu hg hd h
def Nc{x:AK}{v:AH}(hx:ev e x=v)(hg:eS ops e ⟨d,.move x,t,pos,af,g⟩=true)(hd:eQ Γ.n d=true)
  (h:L1 Γ ops rest k (e.put d v) H):L1 Γ ops (⟨d,.move x,t,pos,af,g⟩::rest) k e H:=
 Ii (K:=λu H'=>u=v/\H'=H) hg hd (λ_ hw=>gP (by simp only[execOp];rw[hx];rfl) ⟨H,hw,rfl,rfl⟩) (by rintro _ _ ⟨rfl,rfl⟩;exact h)
def tE{x:AK}{v:AH}(hx:ev e x=v)(hg:eS ops e ⟨d,.assign x,t,pos,af,g⟩=true)(hd:eQ Γ.n d=true)
  (h:L1 Γ ops rest k (e.put d v) H):L1 Γ ops (⟨d,.assign x,t,pos,af,g⟩::rest) k e H:=
 Ii (K:=λu H'=>u=v/\H'=H) hg hd (λ_ hw=>gP (by simp only[execOp];rw[hx];rfl) ⟨H,hw,rfl,rfl⟩) (by rintro _ _ ⟨rfl,rfl⟩;exact h)
def aOH{S:AI->Prop}{x:AK}{v:AH}(ho:ops[i]? =some ⟨d,.move x,t,pos,af,g⟩)(hx:ev e x=v)(hg:eS ops e ⟨d,.move x,t,pos,af,g⟩=true)(hd:eQ Γ.n d=true)
  (h:L2 Γ ops S need pl k (e.put d v) H):L2 Γ ops S need (.step true i pl) k e H:=
 Iv ho hg hd (λw _=>by simp only[execOp];rw[hx];rfl) h
def aBB{S:AI->Prop}{x:AK}{v:AH}(ho:ops[i]? =some ⟨d,.assign x,t,pos,af,g⟩)(hx:ev e x=v)(hg:eS ops e ⟨d,.assign x,t,pos,af,g⟩=true)(hd:eQ Γ.n d=true)
  (h:L2 Γ ops S need pl k (e.put d v) H):L2 Γ ops S need (.step true i pl) k e H:=
 Iv ho hg hd (λw _=>by simp only[execOp];rw[hx];rfl) h
def cZ{f:Nat}{l:AF}{ts:Array AJ}{vs:AA}{u:AH}(hc:iW Γ.P f=true)(hv:lA e l=some vs)
  (hf:∀w,St Γ.w0 Γ.ms H w->aG Γ.P f vs w [] (λv H=>H=[]/\v=u)):
  dU Γ ⟨d,.call ⟨.value (.func f),l.toArray,ts⟩,t,pos,af,g⟩ e H (λv H'=>v=u/\H'=H):=λw hw=>by
 refine xL (eN hc hv hf w hw) ?_
 rintro v w' ⟨H',h1,H2,⟨h2,h3⟩,h4⟩
 subst h2 h4
 exact⟨_,h1,h3,U⟩
def Ly(P:AL)(el c:Nat):Bool:=match P.info? el with
 |some i=>Nat.ble (c*i.bytes) 140737488355328&&Nat.blt 0 i.bytes
 |none=>false
def aKi{P:AL}{el c:Nat}(h:Ly P el c=true):∃i,P.info? el=some i/\c*i.bytes<=140737488355328/\0<i.bytes:=by
 unfold Ly at h
 split at h
 ·rename_i i hi
  simp only[ax]at h
  exact⟨i,hi,ah h.1,d9 (ik) (ah h.2)⟩
 ·cases h
def aO3{tt el n s:Nat}{x y:AK}{k1 k2:AM}{a b:Int}{z:AA}{c:Nat}(hx:bA (ev e x)=some (.int k1 a))(hy:bA (ev e y)=some (.int k2 b))(ha:a=(n:Int))(hb:b=(c:Int))(hnc:n<=c)
  (hu:qV Γ.P tt=some (el,s)) (hz:uR Γ.P el=some z) (hpos:Nat.blt 0 (c*s)=true) (hby:Ly Γ.P el c=true):
  dU Γ ⟨d,.makeSlice tt x y,t,pos,af,g⟩ e H (λu H'=>∃b,u= .slice (some ⟨b,0,none⟩) n c/\H'=(b,J (mS (c*s) z) el)::H):=by
 intro w hw
 obtain⟨h1,h2⟩:=wL hu
 have hx:=bM hx
 have hy:=bM hy
 obtain⟨zv,hzv,hzc⟩:=Ss hz w
 obtain⟨i,hi,hb2,hb3⟩:=aKi hby
 have hpos:0<c*s:=d9 (ik) (ah hpos)
 subst ha hb
 have hc:c<=140737488355328:=gr (Nat.le_mul_of_pos_right c hb3) hb2
 have hw1:IntKind.i64.wrap (n:Int)=n:=bZ (by omega) (by omega)
 have hw2:IntKind.i64.wrap (c:Int)=c:=bZ (by omega) (by omega)
 have key:(Instr.makeSlice tt (.int k1 n) (.int k2 c)).run Γ.P w= .ok (.slice (some ⟨w.heap.size,0,none⟩) n c) (w.alloc (J (mS (c*s) z) el)):=by
  unfold Instr.makeSlice
  have e1:(typeInfo el).run Γ.P w= .ok i w:=by simp[typeInfo,hi]
  have e2:((i.bytes:Int)*(c:Int))<=140737488355328:=by
   rw[<-kb,gh];exact Int.ofNat_le.2 hb2
  have hbad:(decide ((c:Int)<0)||decide ((i.bytes:Int)*(c:Int)>281474976710656)||decide ((n:Int)<0)||decide ((n:Int)>c))=false:=by
   simp only[ib,ai]
   refine⟨⟨⟨by omega,by omega⟩,by omega⟩,by omega⟩
  have hcz:¬c*s=0:=by omega
  simp only[ay,run_underlying h1,ar,asInt,asIntOf,ca,e1,hw1,hw2]
  have hpow:((2:Int)^48)=281474976710656:=by decide
  simp only[hpow,hbad,eq,if_false,ay,run_askRoom,vC h2,ar,c8,hcz,hzv,ca,hzc,Xs]
  rfl
 refine gP (v:= .slice (some ⟨w.heap.size,0,none⟩) n c) (w':=w.alloc (J (mS (c*s) z) el)) ?_ ⟨_,hw.alloc _,_,U,U⟩
 simp only[execOp,hx,hy,ay,key,ar,ca]
def Jg(G:aF)(k:AM)(a:AC)(l:AB):Prop:=
 0<l.length->∃b off,a=some ⟨b,off,none⟩/\∀w:AI,(∀x∈G,w.heap[x.1]? =some x.2)->aK w b off (l.map (.int k))
def Jg.nil(G:aF)(k:AM)(a:AC):Jg G k a []:=λh=>by simp at h
def Jg.row{G:aF}{k:AM}{a:AC}{l:AB}(h:Jg G k a l){i:Nat}(hi:i<l.length):
  ∃b off,a=some ⟨b,off,none⟩/\∀w:AI,(∀x∈G,w.heap[x.1]? =some x.2)->aK w b off (l.map (.int k)):=h (by omega)
def aPn{G:aF}{w0:AI}{ms:AE}{k:AM}{b off:Nat}{l:AB}(hr:∀w:AI,(∀x∈G,w.heap[x.1]? =some x.2)->aK w b off (l.map (.int k)))(hs:∀x∈G,x∈H){i:Nat}(hi:i<l.length):
  ∀w,St w0 ms H w->w.cell? ⟨b,off+i,none⟩=some (.int k (l.getD i 0)):=λw hw=>(hr w λx hx=>hw.holds x (hs x hx)).int hi
def As(k:AM)(l:AB)(v:AH)(H:aF):Prop:=∃a c,v= .slice a l.length c/\l.length<=c/\Jg H k a l
def As.nil{k:AM}:As k [] (.slice none 0 0) []:=⟨none,0,rfl,be _,.nil _ _ _⟩
def As.of_row{k:AM}{l:AB}{b n c T:Nat}{L:AA}{fr:Nat×Nat}(hn:n=l.length)(hc:l.length<=c)(hl:∀(j:Nat) (v:AH),(l.map (Value.int k))[j]? =some v->L[j]? =some v):
  As k l (.slice (some ⟨b,0,none⟩) n c) [(b,.cells L.toArray T fr)]:=by
 subst hn
 refine⟨_,c,U,hc,λ_=>⟨b,0,U,λw hw=>?_⟩⟩
 exact aK.of_blk (cs:=L.toArray) (t:=T) (fr:=fr) (hw _ (.head _)) (λj v hv=>by simpa using hl j v hv)
def aJx(n:Nat)(z:AH):mS n [z]=List.replicate n z:=by
 apply j0
 ·simp[mS]
 ·intro i h1 h2
  simp[mS,Nat.mod_one]
end
def aNt{P:AL}{t:AJ}{a b:Bool}(hu:P.underlying t=some .bool):eO P (Op.equal t (.bool a) (.bool b))=some (a==b):=by
 obtain⟨n,hn⟩:∃n,Op.maxDepth=n+1:=⟨9999,rfl⟩
 unfold Op.equal
 rw[hn]
 simp only[Op.equalIn]
 rw[nA hu]
 rfl
def aMI{α β:Type}{P:AL}{s:Sem α}{f:α->Sem β}{a:α}(h:eO P s=some a):eO P (s >>= f)=eO P (f a):=by
 induction s with
 |pure b=>simp only[eO]at h;cases h;rfl
 |program k ih=>simp only[eO]at h;exact ih P h
 |_=>simp[eO]at h
section
variable {P:AL}{e:bE}{d:AD}{x y:AK}{t ty:AJ}{u:AJ}{pos:String}{af:AG}{g:Option (Nat×Bool)}{a b:Bool}
def Ry(hx:bA (ev e x)=some (.bool a))(hy:bA (ev e y)=some (.bool b))(hu:P.underlying t=some .bool):
  dL P e ⟨d,.binOp .eql t x y u,ty,pos,af,g⟩=some (.bool (a==b)):=by
 refine iY ?_ U
 have hx:=bM hx
 have hy:=bM hy
 have key:=aNt (a:=a) (b:=b) hu
 generalize hE:Op.equal t (.bool a) (.bool b)=E at key
 simp only[execOp,hx,hy]
 unfold eqGuard binOp
 simp only[hE]
 simp only[jq,eq,if_false,pure_bind,bind_assoc]
 exact(aMI key).trans U
end
def Pv{Γ:dJ}{k:fK}{e:bE}{L:aF}{x y:Code}(M:AE)(vs:List (Nat×AH))
  (h1:C Γ x ⟨λe' L'=>oY e' vs/\jF M e' e/\(∀w,St Γ.w0 Γ.ms L' w->St Γ.w0 Γ.ms L w),k.R,k.X⟩ e L)
  (h2:∀u,C Γ y k (mix M vs u e) L):C Γ (.seq x y) k e L:=
 mJ (σ:=Unit) M (λ_=>vs) (λ_=>L) (λ_=>True) (W6 h1 (by rintro(_|_|j) e' L' h<;>first|exact⟨(),trivial,h.1,h.2.1,h.2.2⟩|exact h)) (λ_ u _=>h2 u)
def jF.keep{M M':AE}{vs:List (Nat×AH)}{x e e0:bE}(hs:(M'.all (λt=>M.any (Nat.beq t))&&vs.all (λp=>M.any (Nat.beq p.1)))=true)(h:jF M e e0):jF M (VV.mix M' vs x e) e0:=by
 simp only[ax,List.all_eq_true]at hs
 intro t ht
 unfold VV.mix
 cases hq:vs.find? (λp=>Nat.beq p.1 t)with
 |some p=>
  exfalso
  have h1:=jw hq
  have h2:=hs.2 p h1
  have h3:Nat.beq p.1 t=true:=by have:=List.find?_some hq;simpa using this
  rw[ci h3,ht]at h2
  cases h2
 |none=>
  cases hm:M'.any (Nat.beq t)with
  |false=>exact h t ht
  |true=>
   exfalso
   obtain⟨u,hu,hb⟩:=List.any_eq_true.1 hm
   have h2:=hs.1 u hu
   rw[<-ci hb,ht]at h2
   cases h2
def yC{Γ:dJ}{k:fK}{e:bE}{L:aF}{σ:Type}{c:Code}(M:AE)(vs:σ->List (Nat×AH))(J:σ->Prop)(μ:σ->Nat)(s0:σ)
  (h0:J s0) (hv:oY e (vs s0))
  (round:∀s x,J s->C Γ c ⟨λe' L'=>∃s',J s'/\μ s'<μ s/\oY e' (vs s')/\jF M e' e/\(∀w,St Γ.w0 Γ.ms L' w->St Γ.w0 Γ.ms L w),k.R,k.X⟩ (mix M (vs s) x e) L):
  C Γ (.loop c) k e L:=dK M vs (λ_=>L) J μ s0 h0 hv (λ_ h=>h) round
def aNZ{P:AL}{e:bE}{f:Nat}{x:AK}{A B:Array AH}{l:AF}{ts:Array AJ}{d:AD}{t:AJ}{pos:String}{af:AG}{g:Option (Nat×Bool)}
  (hx:ev e x= .func (.func f) A B) (hc:iW P f=true) (w:AI):
  (execOp (ev e) ⟨d,.call ⟨.value x,l.toArray,ts⟩,t,pos,af,g⟩).run P w= .ok (.enter f (A++(l.map (ev e)).toArray++B)) w:=by
 unfold iW at hc
 split at hc
 ·rename_i fn hf
  simp only[ax,ew]at hc
  obtain⟨h1,h2⟩:=hc
  have hs:(program:Sem AL)= .program .pure:=rfl
  have h3:¬fn.name= "runtime.NumGoroutine" :=by simpa using h1
  have h4:¬fn.body=none:=by
   intro hx;rw[hx]at h2;cases h2
  simp[execOp,resolve,Deferred.ofValue,hx,invoke,callFunc,bind,Sem.bind,Sem.run,hf,h3,h4,pure,hs]
 ·cases hc
section
variable {Γ:dJ}{e:bE}{H F G:aF}{d:AD}{t:AJ}{pos:String}{af:AG}{g:Option (Nat×Bool)}{f:Nat}{x:AK}{l:AF}{ts:Array AJ}
def aEG{A B:AA}{vs:AA}(ms2:AE)(hx:bA (ev e x)=some (.func (.func f) A.toArray B.toArray))(hc:iW Γ.P f=true)(hv:lA e l=some vs){R:AH->aF->Prop}
  (hms:∀b∈ms2,∃o,(b,o)∈F) (hf:∀w,St Γ.w0 Γ.ms (F++G) w->aG Γ.P f (A++vs++B) w ms2 R):
  dU Γ ⟨d,.call ⟨.value x,l.toArray,ts⟩,t,pos,af,g⟩ e (F++G) (λv H2=>∃H',R v H'/\H2=H'++G):=λw hw=>by
 refine A6 (aNZ (bM hx) hc w) ?_
 have:A.toArray++(l.map (ev e)).toArray++B.toArray=(A++vs++B).toArray:=by
  rw[Dj hv]
  simp
 rw[this]
 refine Calls.mono (hf w hw) ?_
 rintro ex w' ⟨v,H',rfl,h1,h2⟩
 exact⟨v,U,_,hw.call hms h1,H',h2,U⟩
def aRO{A B:AA}{vs:AA}(hx:bA (ev e x)=some (.func (.func f) A.toArray B.toArray))(hc:iW Γ.P f=true)(hv:lA e l=some vs){R:AH->aF->Prop}
  (hf:∀w,St Γ.w0 Γ.ms H w->aG Γ.P f (A++vs++B) w [] R):
  dU Γ ⟨d,.call ⟨.value x,l.toArray,ts⟩,t,pos,af,g⟩ e H (λv H2=>∃H',R v H'/\H2=H'++H):=aEG (F:=[]) [] hx hc hv (by simp) hf
def uT{A B:AA}{vs:AA}{u:AH}(hx:bA (ev e x)=some (.func (.func f) A.toArray B.toArray))(hc:iW Γ.P f=true)(hv:lA e l=some vs)
  (hf:∀w,St Γ.w0 Γ.ms H w->aG Γ.P f (A++vs++B) w [] (λv H'=>H'=[]/\v=u)):
  dU Γ ⟨d,.call ⟨.value x,l.toArray,ts⟩,t,pos,af,g⟩ e H (λv H'=>v=u/\H'=H):=λw hw=>by
 refine xL (aRO hx hc hv hf w hw) ?_
 rintro v w' ⟨H',h1,H2,⟨h2,h3⟩,h4⟩
 subst h2 h4
 exact⟨_,h1,h3,U⟩
end
def St.lent{w:AI}{F:aF}(hn:(F.map (·.1)).Nodup)(hF:∀x∈F,w.heap[x.1]? =some x.2):St w (F.map (·.1)) F w:=
 ⟨rfl,rfl,rfl,be _,λ_ _ _=>rfl,hn,λx hx=> .inl (List.mem_map.2 ⟨x,hx,rfl⟩),hF⟩
def St.lent1{w:AI}{b:Nat}{o:Obj}(h:w.heap[b]? =some o):St w [b] [(b,o)] w:=St.lent (F:=[(b,o)]) (by simp) (by simpa using h)
section
variable {α:Type}{c:α->AA}{s:Nat}
def aM(c:α->AA)(l:List α):AA:=l.flatMap c
def xZ(x:α)(l:List α):aM c (x::l)=c x++aM c l:=rfl
def vM(a b:List α):aM c (a++b)=aM c a++aM c b:=by simp[aM]
def gH(hc:∀x,(c x).length=s)(l:List α):(aM c l).length=l.length*s:=by
 induction l with
 |nil=>simp[aM]
 |cons x l ih=>rw[xZ,ef,ih,hc,iy,jk,Nat.one_mul,ja]
def Bq(X Y Z y:AA)(h:Y.length=y.length):aV (X++(Y++Z)) X.length y=X++(y++Z):=by
 unfold aV
 have h1:(X++(Y++Z)).take X.length=X:=by simp
 have h2:(X++(Y++Z)).drop (X.length+y.length)=Z:=by
  rw[<-h,<-cx]
  have:X.length+Y.length=(X++Y).length:=by simp
  rw[this];simp
 rw[h1,h2,cx]
def F3(hc:∀x,(c x).length=s)(A B:List α)(x y:α)(sp:AA):aV (aM c (A++x::B)++sp) (0+A.length*s) (c y)=aM c (A++y::B)++sp:=by
 have:=Bq (aM c A) (c x) (aM c B++sp) (c y) (by rw[hc,hc])
 rw[gH hc]at this
 simpa[vM,xZ,cx] using this
def aNu(hc:∀x,(c x).length=s)(A B:List α)(x y z:α)(sp:AA):aV (aM c ((A++[x])++y::B)++sp) (0+(A++[x]).length*s) (c z)=aM c (A++x::z::B)++sp:=by
 rw[F3 hc (A++[x]) B y z sp,cx];rfl
def W8(hc:∀x,(c x).length=s)(A B:List α)(x y:α)(sp:AA):0+A.length*s+(c y).length<=(aM c (A++x::B)++sp).length:=by
 rw[ef,vM,xZ,ef,ef,gH hc,hc,hc];omega
def aK.elem{w:AI}{b off:Nat}{A B:List α}{x:α}{sp:AA}(hc:∀x,(c x).length=s)(h:aK w b off (aM c (A++x::B)++sp)):aK w b (off+A.length*s) (c x):=by
 intro j v hv
 have hj:j<(c x).length:=by
  rcases du j (c x).length with h1|h1
  ·exact h1
  ·rw[d7 h1]at hv;cases hv
 have:=h (A.length*s+j) v (by
  rw[vM,xZ,<-gH hc A,cx,et (Nat.le_add_right _ _),gl,cx,di hj]
  exact hv)
 rw[ec];exact this
def aK.elem2{w:AI}{b off:Nat}{A B:List α}{x y:α}{sp:AA}(hc:∀x,(c x).length=s)(h:aK w b off (aM c ((A++[x])++y::B)++sp)):aK w b (off+A.length*s) (c x):=by
 rw[cx]at h
 exact aK.elem hc h
def N7{l:List α}(h:0<l.length):∃A a,l=A++[a]:=by
 have hn:l≠[]:=by intro h0;subst h0;simp at h
 exact⟨l.dropLast,l.getLast hn,(List.dropLast_concat_getLast hn).symm⟩
def Te{A:List α}{x:α}(h:A.length<1000000000):IntKind.i64.wrap (((A++[x]).length:Int)-1)=(A.length:Int):=by
 rw[ef,au,bZ (by omega) (by omega)];omega
def Km{l:List α}{j:Nat}(hj:j<l.length):l=l.take j++l[j]::l.drop (j+1):=by
 rw[List.getElem_cons_drop,dp]
def aK.nth{w:AI}{b off:Nat}{l:List α}(hc:∀x,(c x).length=s)(h:aK w b off (aM c l)){j:Nat}(hj:j<l.length):aK w b (off+j*s) (c l[j]):=by
 have h':aK w b off (aM c (l.take j++l[j]::l.drop (j+1))++[]):=by rw[<-Km hj,cn];exact h
 have:=aK.elem hc h'
 rwa[f2,fx (by omega)]at this
def aK.nth'{w:AI}{b off:Nat}{l:List α}{x:α}(hc:∀x,(c x).length=s)(h:aK w b off (aM c l)){j:Nat}(hj:l[j]? =some x):aK w b (off+j*s) (c x):=by
 obtain⟨h1,h2⟩:=List.getElem?_eq_some_iff.1 hj
 have:=aK.nth hc h h1
 rwa[h2]at this
def aK.left{w:AI}{b off:Nat}{l r:AA}(h:aK w b off (l++r)):aK w b off l:=λj v hv=>h j v (by
 have hj:j<l.length:=by
  rcases du j l.length with h1|h1
  ·exact h1
  ·rw[d7 h1]at hv;cases hv
 rw[di hj];exact hv)
def eX(w:AI)(c:α->AA)(a:AC)(l:List α):Prop:=0<l.length->∃b off,a=some ⟨b,off,none⟩/\aK w b off (aM c l)
def eX.nil(w:AI)(c:α->AA)(a:AC):eX w c a []:=λh=>by simp at h
def eX.row{w:AI}{a:AC}{l:List α}(h:eX w c a l){i:Nat}(hi:i<l.length):∃b off,a=some ⟨b,off,none⟩/\aK w b off (aM c l):=h (by omega)
def eX.later0{w0 w:AI}{H:aF}{a:AC}{l:List α}(h:eX w0 c a l)(hw:St w0 [] H w):eX w c a l:=λhl=>by
 obtain⟨b,off,ha,hr⟩:=h hl
 exact⟨b,off,ha,bU hr (by simp) w hw⟩
def H8(G:aF)(c:α->AA)(a:AC)(l:List α):Prop:=
 0<l.length->∃b off,a=some ⟨b,off,none⟩/\∀w:AI,(∀x∈G,w.heap[x.1]? =some x.2)->aK w b off (aM c l)
def H8.els{G H:aF}{a:AC}{l:List α}{w0 w:AI}{ms:AE}(h:H8 G c a l)(hw:St w0 ms H w)(hs:∀x∈G,x∈H):eX w c a l:=λhl=>by
 obtain⟨b,off,ha,hr⟩:=h hl
 exact⟨b,off,ha,hr w λx hx=>hw.holds x (hs x hx)⟩
def bS.gives{T n:Nat}{v:AH}{G:aF}{l:List α}(h:bS T s v n (aM c l) G)(hc:∀x,(c x).length=s)(hs:0<s):∃a cp,v= .slice a n cp/\l.length=n/\n<=cp/\H8 G c a l:=by
 have hl:=h.len
 rw[gH hc]at hl
 have hn:l.length=n:=jr hs hl
 generalize hx:aM c l=xs at h
 cases h with
 |nil=>exact⟨none,0,rfl,hn,be _,λh0=>by omega⟩
 |row b _ cap _ sp h1 h2 h3 h4=>
  refine⟨_,cap,U,hn,h4,λ_=>⟨b,0,U,λw hw=>?_⟩⟩
  have:=aK.all (w:=w) (b:=b) (hw _ (.head _))
  rw[<-hx]at this
  exact this.left
end
def De{P:AL}{e:bE}{d:AD}{ty:AJ}{pos:String}{af:AG}{g:Option (Nat×Bool)}{t el n s:Nat}{parts:List (Nat×AK)}{ps:List (Nat×AH)}{l z:AA}
  (hu:xC P t=some (n,el,s)) (hz:uR P t=some z) (hp:Hk e parts=some ps) (hf:Cy (λi=>some (i*s,s)) z ps=some l):
  dL P e ⟨d,.build t parts.toArray,ty,pos,af,g⟩=some (.agg l.toArray):=by
 refine iY ?_ U
 obtain⟨h1,h2⟩:=Lu hu
 have hpp:=Wc hp
 have hfl:=Qp hf
 have hzz:∀{α:Type} (f:AH->Sem α),∃zv:AH,zv.cells=z.toArray/\eO P (zeroValue t >>= f)=eO P (f zv):=by
  intro α f
  unfold uR at hz
  split at hz
  ·rename_i i hi
   split at hz
   ·rename_i zv hzv
    refine⟨zv,Hv hz,?_⟩
    simp[zeroValue,typeInfo,program,bind,Sem.bind,eO,hi,hzv,pure]
   ·cases hz
  ·cases hz
 simp only[execOp,Instr.build,bind_assoc]
 obtain⟨zv,hzc,hzr⟩:=hzz (λzero=>underlying t >>= λd=>_)
 rw[hzr,nA h1]
 simp only[bind_assoc]
 rw[vQ h2]
 have h9:((List.toArray parts).map λ(i,x)=>(i,ev e x)).toList=ps:=by simpa using hpp
 simp only[h9,hzc,hfl]
 rfl
def Gj{Γ:dJ}{e:bE}{H:aF}{d:AD}{ty:AJ}{pos:String}{af:AG}{g:Option (Nat×Bool)}{t el n:Nat}(hu:qV Γ.P t=some (el,n)):
  dU Γ ⟨d,.buildSlice t 0 #[],ty,pos,af,g⟩ e H (λu H'=>∃b,u= .slice (some ⟨b,0,none⟩) 0 0/\H'=(b,J [] el)::H):=by
 intro w hw
 obtain⟨h1,h2⟩:=wL hu
 refine gP (v:= .slice (some ⟨w.heap.size,0,none⟩) 0 0) (w':=w.alloc (J [] el)) ?_ ⟨_,hw.alloc _,_,U,U⟩
 have h3:¬(0:Nat)>2^24:=by decide
 have hq:(#[]:Array (Nat×AK)).map (λx=>(x.1,ev e x.2))= #[]:=by simp
 have hm:(Array.range 0).map (λx=>(#[]:Array AH)[x%(#[]:Array AH).size]!)= #[]:=by simp
 have key:(Instr.buildSlice t 0 #[]).run Γ.P w= .ok (.slice (some ⟨w.heap.size,0,none⟩) 0 0) (w.alloc (J [] el)):=by
  unfold Instr.buildSlice
  simp only[ay,run_underlying h1,vC h2,ar,gf,if_true,ae h3,ca,hm,Instr.fill]
  rfl
 simp only[execOp,hq,ay,key,ar,ca]
def aDR{kd:AM}{l:AB}{k:Nat}(h:k<l.length):(l.map (Value.int kd))[k]? =some (.int kd (l.getD k 0)):=by simp[h]
def kA{G:aF}{b:Nat}(h:b∈G.map (·.1)):∃o,(b,o)∈G:=by
 obtain⟨⟨b',o⟩,h1,h2⟩:=List.mem_map.1 h
 exact⟨o,by simp only at h2;subst h2;exact h1⟩
def Dp{l vs:AA}(h:vs.length=l.length):aV l 0 vs=vs:=by
 unfold aV
 rw[gu,cg,bj,h,gi,cn]
def xH{α:Type}{c:α->AA}(A:List α)(x:α):aM c (A++[x])=aM c A++c x:=by simp[aM]
section
variable {kd:AM}{f:Nat->Int}{N k:Nat}
def nS(kd:AM)(f:Nat->Int)(N k:Nat):AA:=(List.range k).map (λi=>Value.int kd (f i))++List.replicate (N-k) (.int kd 0)
def Y0(kd:AM)(f:Nat->Int)(N:Nat):List.replicate N (Value.int kd 0)=nS kd f N 0:=by simp[nS]
def Td(hk:k<=N):(nS kd f N k).length=N:=by simp[nS];omega
def aM8(hk:k<N):nS kd f N k=(List.range k).map (λi=>Value.int kd (f i))++([.int kd 0]++List.replicate (N-(k+1)) (.int kd 0)):=by
 unfold nS
 have:N-k=(N-(k+1))+1:=by omega
 rw[this,List.replicate_succ];rfl
def Wg(hk:k<N)(v:Int)(hv:v=f k):aV (nS kd f N k) k [.int kd v]=nS kd f N (k+1):=by
 have:=Bq ((List.range k).map (λi=>Value.int kd (f i))) [.int kd 0] (List.replicate (N-(k+1)) (.int kd 0)) [.int kd v] rfl
 rw[jb,List.length_range]at this
 rw[aM8 hk,this,hv]
 simp[nS,eo]
def Y1(kd:AM)(f:Nat->Int)(N:Nat):nS kd f N N=(List.range N).map (λi=>Value.int kd (f i)):=by simp[nS]
def aCG(kd:AM)(f:Nat->Int)(N k:Nat):fJ (nS kd f N k)=true:=by
 refine List.all_eq_true.2 λx hx=>?_
 rcases List.mem_append.1 hx with h|h
 ·obtain⟨i,_,rfl⟩:=List.mem_map.1 h;rfl
 ·obtain⟨_,rfl⟩:=List.mem_replicate.1 h;rfl
def aOp{l:AA}{u v:AH}{k:Nat}(hk:k<l.length):aV (aV l k [u]) k [v]=aV l k [v]:=by
 have h1:l=l.take k++([l[k]]++l.drop (k+1)):=by simp
 have hlen:(l.take k).length=k:=by rw[f2];omega
 generalize l.take k=X at*
 generalize l.drop (k+1)=Z at*
 generalize l[k]=y at*
 have e:∀a b:AH,aV (X++([a]++Z)) k [b]=X++([b]++Z):=λa b=>by
  have:=Bq X [a] Z [b] rfl
  rwa[hlen]at this
 rw[h1,e,e,e]
def yO{l vs:AA}{o:Nat}(h:o+vs.length<=l.length):(aV l o vs).length=l.length:=by
 simp only[aV,ef,f2,ic];omega
end
def xX(P:AL)(t0:AJ)(name:String)(f:Nat):Prop:=∀(v:AH) (w:AI),(method (P.types.size+Made.depth) t0 v name).run P w= .ok (f,v) w
def aMe{P:AL}{e:bE}{f:Nat}{x:AK}{t0:AJ}{v:AH}{name:String}{l:AF}{ts:Array AJ}{d:AD}{t:AJ}{pos:String}{af:AG}{g:Option (Nat×Bool)}
  (hx:ev e x= .iface t0 v) (hm:xX P t0 name f) (hc:iW P f=true) (w:AI):
  (execOp (ev e) ⟨d,.call ⟨.invoke x name,l.toArray,ts⟩,t,pos,af,g⟩).run P w= .ok (.enter f (#[v]++(l.map (ev e)).toArray)) w:=by
 unfold iW at hc
 split at hc
 ·rename_i fn hf
  simp only[ax,ew]at hc
  obtain⟨h1,h2⟩:=hc
  have hs:(program:Sem AL)= .program .pure:=rfl
  have h3:¬fn.name= "runtime.NumGoroutine" :=by simpa using h1
  have h4:¬fn.body=none:=by
   intro hx;rw[hx]at h2;cases h2
  have hp:∀w,(program:Sem AL).run P w= .ok P w:=λw=>rfl
  have hcf:∀(args:Array AH) w,(callFunc f args).run P w= .ok (.enter f args) w:=λargs w=>by
   simp[callFunc,bind,Sem.bind,Sem.run,hf,h3,h4,pure,hs]
  simp only[execOp,resolve,ay,ca,ar,invoke,callMethod,hx]
  simp[hm v w,hcf,hp,ay,ar]
  exact dq (by simp)
 ·cases hc
section
variable {Γ:dJ}{e:bE}{H F G:aF}{d:AD}{t:AJ}{pos:String}{af:AG}{g:Option (Nat×Bool)}{f:Nat}{x:AK}{l:AF}{ts:Array AJ}
def aRx{t0:AJ}{v:AH}{name:String}{vs:AA}(ms2:AE)(hx:ev e x= .iface t0 v)(hm:xX Γ.P t0 name f)(hc:iW Γ.P f=true)(hv:lA e l=some vs){R:AH->aF->Prop}
  (hms:∀b∈ms2,∃o,(b,o)∈F) (hf:∀w,St Γ.w0 Γ.ms (F++G) w->aG Γ.P f (v::vs) w ms2 R):
  dU Γ ⟨d,.call ⟨.invoke x name,l.toArray,ts⟩,t,pos,af,g⟩ e (F++G) (λv H2=>∃H',R v H'/\H2=H'++G):=λw hw=>by
 refine A6 (aMe hx hm hc w) ?_
 have: #[v]++(l.map (ev e)).toArray=(v::vs).toArray:=by
  rw[Dj hv]
  simp
 rw[this]
 refine Calls.mono (hf w hw) ?_
 rintro ex w' ⟨v,H',rfl,h1,h2⟩
 exact⟨v,U,_,hw.call hms h1,H',h2,U⟩
def rG{A:aF}{t0:AJ}{v:AH}{name:String}{vs:AA}(hx:ev e x= .iface t0 v)(hm:xX Γ.P t0 name f)(hc:iW Γ.P f=true)(hv:lA e l=some vs){R:AH->aF->Prop}
  (hf:∀w,St Γ.w0 Γ.ms (A++F) w->aG Γ.P f (v::vs) w (A.map (·.1)) R):
  dU Γ ⟨d,.call ⟨.invoke x name,l.toArray,ts⟩,t,pos,af,g⟩ e (F++A) (λv H2=>∃H',R v H'/\H2=F++H'):=λw hw=>by
 refine xL (aRx (F:=A) (G:=F) (A.map (·.1)) hx hm hc hv (λ_ hb=>kA hb) hf w (hw.perm bf)) ?_
 rintro v w' ⟨H2,h2,H',hR,rfl⟩
 exact⟨F++H',h2.perm bf,H',hR,U⟩
def cB{A:aF}{vs:AA}(hc:iW Γ.P f=true)(hv:lA e l=some vs){R:AH->aF->Prop}
  (hf:∀w,St Γ.w0 Γ.ms (A++F) w->aG Γ.P f vs w (A.map (·.1)) R):
  dU Γ ⟨d,.call ⟨.value (.func f),l.toArray,ts⟩,t,pos,af,g⟩ e (F++A) (λv H2=>∃H',R v H'/\H2=F++H'):=λw hw=>by
 refine xL (kP (A:=A) (G:=F) (A.map (·.1)) hc hv (λ_ hb=>kA hb) hf w (hw.perm bf)) ?_
 rintro v w' ⟨H2,h2,H',hR,rfl⟩
 exact⟨F++H',h2.perm bf,H',hR,U⟩
def Zx{A:aF}{B C vs:AA}(hx:bA (ev e x)=some (.func (.func f) B.toArray C.toArray))(hc:iW Γ.P f=true)(hv:lA e l=some vs){R:AH->aF->Prop}
  (hf:∀w,St Γ.w0 Γ.ms (A++F) w->aG Γ.P f (B++vs++C) w (A.map (·.1)) R):
  dU Γ ⟨d,.call ⟨.value x,l.toArray,ts⟩,t,pos,af,g⟩ e (F++A) (λv H2=>∃H',R v H'/\H2=F++H'):=λw hw=>by
 refine xL (aEG (F:=A) (G:=F) (A.map (·.1)) hx hc hv (λ_ hb=>kA hb) hf w (hw.perm bf)) ?_
 rintro v w' ⟨H2,h2,H',hR,rfl⟩
 exact⟨F++H',h2.perm bf,H',hR,U⟩
end
section
variable {P:AL}{e:bE}{H:aF}
def Lg{a b c d:Nat}{T U:AJ}{l m:AA}{w:AI}(h:bA (e a)=some (.pointer (some ⟨b,0,none⟩)))(hs:sG P T=true)(hn:jZ P T=some l.length)(hr:aK w b 0 l)
  (h2:bA (e c)=some (.pointer (some ⟨d,0,none⟩))) (hs2:sG P U=true) (hn2:jZ P U=some m.length) (hr2:aK w d 0 m):
  kS P [.cell a T,.cell c U] e w (.tuple #[.agg l.toArray,.agg m.toArray]):=by
 have h:=bM h
 have hl:=run_loadCells_list (P:=P) w ⟨b,0,none⟩ l hr.add
 have h2:=bM h2
 have hl2:=run_loadCells_list (P:=P) w ⟨d,0,none⟩ m hr2.add
 simp[kS,vW,h,h2,asAddr,loadVar,ay,Fx hs,vC hn,Fx hs2,vC hn2,hl,hl2]
end
def aMG{w0:AI}{ms:AE}(A:aF){x:Nat×Obj}{R:aF}:∀w,St w0 ms (x::(A++R)) w->St w0 ms (A++x::R) w:=λ_ hw=>hw.perm List.perm_middle.symm
end Go.VV
namespace Go.VV
open Go Go.ChangeShapes Go.WideShapes Go.ChangeAt Go.RowKit
def aP5{W W':AI}{H:aF}(h:St W [] H W'):Below W.heap.size W W':=
 ⟨h.os,h.tape,h.output,h.size,λk hk=>h.block k hk (by simp)⟩
section
variable {H:Type}{enc:AJ×AH->H}{P:AL}{W:AI}
def V6(hl:laidOutB P=true){W':AI}(bel:Below W.heap.size W W'):∀{ts:List AJ} {vs:AA} {ds:List (DataW H)} {p:List MemPlace},
  (ts.all λt=>P.readableRec t&&decide (t<P.types.size))=true->DataW.TrodAll enc P W 0 (λ_=>true) true ts vs ds p->
  DataW.TrodAll enc P W' 0 (λb=>decide (b<W.heap.size)) true ts vs ds p
 | [],vs,ds,p,_,h=>by
  obtain⟨rfl,rfl,rfl⟩:=trodAll_nil h
  exact trodAll_mk0
 |t::ts,vs,ds,p,hr,h=>by
  simp only[gn,ax,ak]at hr
  obtain⟨v,vs',d,ds',p1,q,rfl,rfl,rfl,h1,h2⟩:=trodAll_cons h
  have hlt:∀x∈p1,x.block<W.heap.size:=by obtain⟨m,hm⟩:=h1;exact DataW.trod_lt m _ _ _ hm
  exact trodAll_cons_mk (Below.trod hl hr.1.1 hr.1.2 h1 bel hlt) (V6 hl bel hr.2 h2)
def Vf{x:Int}(h:(Lit.int .u8 x).wf=true):0<=x/\x<256:=by
 simp only[Lit.wf,ax,ak]at h
 have h1:IntKind.u8.min=0:=by decide
 have h2:IntKind.u8.max=255:=by decide
 omega
def aOJ{x:Int}(h:(Lit.int .u64 x).wf=true):0<=x/\x<=18446744073709551615:=by
 simp only[Lit.wf,ax,ak]at h
 have h1:IntKind.u64.min=0:=by decide
 have h2:IntKind.u64.max=18446744073709551615:=by decide
 omega
def aPh{l:AB}(h:∀x∈l,(Lit.int .u8 x).wf=true):bF l:=λx hx=>Vf (h x hx)
end
end Go.VV
