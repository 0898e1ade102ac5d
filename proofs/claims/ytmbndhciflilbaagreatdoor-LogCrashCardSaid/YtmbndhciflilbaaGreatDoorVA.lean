/-
  Texts of a proof, as one: V1, V2, V3, V4, V5, V6, V7, V8, V9, V10, V11, V12, V13, V14, V15, V16, V17, V18, V19.
-/
import Derived.Test.YtmbndhciflilbaaGreatDoorEA
import Derived.Test.YtmbndhciflilbaaGreatDoorCB
import Derived.Test.YtmbndhciflilbaaGreatDoorXB
namespace Go.Proofs.YtmbndhciflilbaaGreatDoor.X
open F
set_option linter.unusedSimpArgs false
set_option linter.unusedVariables false
abbrev Txt:=List UInt8
structure Dsk where
 secs:List Txt
 size:Int
 waits:List (Int×Txt)
 gone:Bool
structure Arr where
 disks:List Dsk
 left:Int
 down:Bool
def Dsk.check (d:Dsk) (n:Int) (s:Txt):Int:=if d.gone then 8 else if n < 0∨(d.secs.length:Int)≤n then 1 else if d.size < s.length then 12 else 0
def E9 (n:Int):List (Int×Txt)→Option Txt
 | []=>none
 | w :: ws=>match E9 n ws with
  | some s=>some s
  | none=>if w.1=n then some w.2 else none
def Dsk.at_ (d:Dsk) (n:Int):Txt:=(E9 n d.waits).getD (d.secs[n.toNat]?.getD [])
def Dsk.read (d:Dsk) (n:Int):Txt×Int:=if d.check n []=0 then (d.at_ n,0) else ([],d.check n [])
def Dsk.write (d:Dsk) (n:Int) (s:Txt):Dsk:=if d.check n s=0 then { d with waits:=d.waits ++ [(n,s)] } else d
def Dv:List (Int×Txt)→List Bool→List Txt→List Txt
 | [],_,l=>l
 | _ :: _,[],l=>l
 | w :: ws,k :: ks,l=>Dv ws ks (if k then l.set w.1.toNat w.2 else l)
def Dsk.B3 (d:Dsk) (keep:List Bool):Dsk:=if d.gone then d else { d with secs:=Dv d.waits keep d.secs,waits:=[] }
def Dsk.K9 (d:Dsk):Int:=if d.gone then 8 else 0
def Dsk.flush (d:Dsk):Dsk:=d.B3 (List.replicate d.waits.length true)
def Dsk.Cd (d:Dsk) (n:Int) (s:Txt):Dsk:=if d.check n s=0 then { d with waits:=d.waits.filter (fun w => !decide (w.1=n)),secs:=d.secs.set n.toNat s } else d
def Dsk.fail (d:Dsk):Dsk:= { d with gone:=true,waits:=[] }
def Dsk.replace (d:Dsk):Dsk:= { d with gone:=false,waits:=[],secs:=List.replicate d.secs.length [] }
def Ew (sectors size:Int):Dsk:=⟨List.replicate sectors.toNat [],size,[],false⟩
def DskP (sectors size:Int):Prop:=1≤sectors∧sectors≤4096∧1≤size∧size≤4096
instance (a b:Int):Decidable (DskP a b):=by unfold DskP;exact inferInstance
structure DskW (d:Dsk):Prop where
 waits:∀ w∈d.waits,0≤w.1∧w.1 < d.secs.length
 gone:d.gone=true→d.waits=[]
 size:0≤d.size
 few:d.secs.length≤4096
def Arr.Kv (a:Arr):Int:=if a.down then 9 else 0
def Arr.on? (a:Arr) (d:Int):Option Dsk:=if 0≤d then a.disks[d.toNat]? else none
def Arr.set (a:Arr) (d:Int) (x:Dsk):Arr:= { a with disks:=a.disks.set d.toNat x }
def Arr.read (a:Arr) (d n:Int):Txt×Int:=if a.down then ([],9) else match a.on? d with
 | none=>([],1)
 | some x=>x.read n
def Arr.Hd (a:Arr) (d n:Int) (s:Txt):Int:=if a.down then 9 else match a.on? d with
 | none=>1
 | some x=>if x.check n s≠0 then x.check n s else if a.left=0 then 9 else 0
def Arr.write (a:Arr) (d n:Int) (s:Txt):Arr:=if a.down then a else match a.on? d with
 | none=>a
 | some x=>if x.check n s≠0 then a else if a.left=0 then { a with down:=true } else { (a.set d (x.write n s)) with left:=if 0 < a.left then a.left - 1 else a.left }
def Arr.flush (a:Arr):Arr:=if a.down then a else { a with disks:=a.disks.map Dsk.flush }
def Arr.fuse (a:Arr) (n:Int):Arr:=if n < 0 then a else { a with left:=n }
def Gp:List Dsk→List Bool→List Dsk
 | [],_=>[]
 | d :: ds,keep=>d.B3 (keep.take d.waits.length) :: Gp ds (keep.drop d.waits.length)
def Arr.B3 (a:Arr) (keep:List Bool):Arr:=⟨Gp a.disks keep,-1,false⟩
def Arr.does (a:Arr) (d:Int) (e:Dsk→Int) (f:Dsk→Dsk):Arr×Int:=match a.on? d with
 | none=>(a,1)
 | some x=>(a.set d (f x),e x)
def Arr.fail (a:Arr) (d:Int):Arr×Int:=a.does d (fun _=>0) Dsk.fail
def Arr.replace (a:Arr) (d:Int):Arr×Int:=a.does d (fun _=>0) Dsk.replace
def Arr.Cd (a:Arr) (d n:Int) (s:Txt):Arr×Int:=a.does d (fun x=>x.check n s) (fun x=>x.Cd n s)
def Arr.alive (a:Arr) (d:Int):Bool:=match a.on? d with
 | none=>false
 | some x => !x.gone
def Ck (disks sectors size:Int):Arr:=⟨List.replicate disks.toNat (Ew sectors size),-1,false⟩
structure ArrW (a:Arr):Prop where
 disks:∀ d∈a.disks,DskW d
 few:a.disks.length≤255
def Gj (x:Nat):Nat:=bif Nat.beq (Nat.mod x 2) 1 then Nat.xor (Nat.div x 2) 2197175160 else Nat.div x 2
def A8y (x b:Nat):Nat:=Gj (Gj (Gj (Gj (Gj (Gj (Gj (Gj (Nat.xor x b))))))))
def crcL (x:Nat):Txt→Nat
 | []=>x
 | b :: l=>crcL (A8y x b.toNat) l
def crcR (s:Txt):Nat:=Nat.xor (crcL 4294967295 s) 4294967295
structure BlkD where
 ar:Int
 dk:Int
 pl:Int
 ep:Int
 tx:Txt
def blk0:BlkD:=⟨0,0,0,0,[]⟩
def E8 (s:Txt):Txt×Int:=if s.length < 65536 then (le s.length 2 ++ s,0) else ([],12)
def mag:Txt:=[83,80,76]
def err1:List Int→Int
 | []=>0
 | e :: l=>if e=0 then err1 l else e
theorem Lm (x:Nat):Gj x=if x % 2=1 then (x / 2) ^^^ 2197175160 else x / 2:=by
 unfold Gj
 by_cases h:x % 2=1
 ·rw [if_pos h]
  have e:Nat.beq (Nat.mod x 2) 1=true:=by have e:Nat.mod x 2=1:=h;rw [e];rfl
  rw [e];rfl
 ·rw [if_neg h]
  rw [show Nat.beq (Nat.mod x 2) 1=false from by
   cases hb:Nat.beq (Nat.mod x 2) 1 with
   | false=>rfl
   | true=>exact absurd (Nat.eq_of_beq_eq_true hb) h]
  rfl
theorem xor4 (a b c d:Nat):(a ^^^ b) ^^^ (c ^^^ d)=(a ^^^ c) ^^^ (b ^^^ d):=by
 rw [Nat.xor_assoc,Nat.xor_assoc,←Nat.xor_assoc b c d,Nat.xor_comm b c,Nat.xor_assoc c b d]
theorem Aax (x y:Nat):Gj (x ^^^ y)=Gj x ^^^ Gj y:=by
 have hm:=Nat.xor_mod_two_eq_one (a:=x) (b:=y)
 rw [Lm,Lm,Lm,Nat.xor_div_two]
 by_cases h1:x % 2=1<;>by_cases h2:y % 2=1<;>simp only [h1,h2,iff_true,iff_false,not_true,not_false_eq_true,iff_self] at hm
 ·rw [if_neg (by simpa using hm),if_pos h1,if_pos h2,xor4,Nat.xor_self,Nat.xor_zero]
 ·rw [if_pos (by simpa using hm),if_pos h1,if_neg h2,Nat.xor_assoc,Nat.xor_comm (y / 2),←Nat.xor_assoc]
 ·rw [if_pos (by simpa using hm),if_neg h1,if_pos h2,Nat.xor_assoc]
 ·rw [if_neg (by simpa using hm),if_neg h1,if_neg h2]
theorem Mb (m:Nat):Gj (2 * m)=m:=by rw [Lm,if_neg ω];omega
theorem Ng {x:Nat} (h:x < 2 ^ 32):Gj x < 2 ^ 32:=by
 rw [Lm]
 split
 ·exact Nat.xor_lt_two_pow ω ω
 ·omega
def c4 (x:Nat):Nat:=Gj (Gj (Gj (Gj x)))
theorem c4_xor (x y:Nat):c4 (x ^^^ y)=c4 x ^^^ c4 y:=by simp only [c4,Aax]
theorem Ahj (m:Nat):c4 (16 * m)=m:=by
 rw [c4,show 16 * m=2 * (2 * (2 * (2 * m))) by omega,Mb,Mb,Mb,Mb]
theorem Ahk (x:Nat):x=(16 * (x / 16)) ^^^ (x % 16):=by
 have:16 * (x / 16) ^^^ (x % 16)=16 * (x / 16)+x % 16:=by
  have h:=Nat.two_pow_add_eq_or_of_lt (i:=4) (b:=x % 16) (Nat.mod_lt _ ν) (x / 16)
  have h2:(2 ^ 4 * (x / 16)) &&& (x % 16)=0:=by
   apply Nat.eq_of_testBit_eq
   intro j
   rw [Nat.testBit_and,Nat.zero_testBit,Nat.testBit_two_pow_mul]
   by_cases hj:4≤j
   ·rw [Nat.testBit_lt_two_pow (x:=x % 16) (Nat.lt_of_lt_of_le (Nat.mod_lt _ ν) (show 2 ^ 4≤2 ^ j from Nat.pow_le_pow_right ν hj))]
    simp
   ·simp [hj]
  have h3:∀ a b:Nat,a &&& b=0→a ^^^ b=a ||| b:=by
   intro a b hab
   apply Nat.eq_of_testBit_eq
   intro j
   have:=congrArg (Nat.testBit · j) hab
   simp only [Nat.testBit_and,Nat.zero_testBit] at this
   rw [Nat.testBit_xor,Nat.testBit_or]
   cases ha:a.testBit j<;>cases hb:b.testBit j<;>simp_all
  have:=h3 _ _ h2
  simp only [show (2:Nat) ^ 4=16 by decide] at *
  rw [this,←h]
 omega
theorem c4_tab (x:Nat):c4 x=(x / 16) ^^^ c4 (x % 16):=by
 conv=>lhs;rw [Ahk x,c4_xor,Ahj]
theorem A3w (x b:Nat):A8y x b=c4 (c4 (x ^^^ b)):=rfl
theorem A8z {x:Nat} (h:x < 2 ^ 32):c4 x < 2 ^ 32:=Ng (Ng (Ng (Ng h)))
theorem Aec {x b:Nat} (h:x < 2 ^ 32) (hb:b < 256):A8y x b < 2 ^ 32:=by
 rw [A3w]
 exact A8z (A8z (Nat.xor_lt_two_pow h ω))
theorem Uv:∀ (l:Txt) (x:Nat),x < 2 ^ 32→crcL x l < 2 ^ 32
 | [],x,h=>h
 | b :: l,x,h=>Uv l _ (Aec h b.toNat_lt)
theorem A1k (s:Txt):crcR s < 2 ^ 32:=Nat.xor_lt_two_pow (Uv s _ ν) ν
theorem Zk:∀ (l:Txt) (x:Nat) (b:UInt8),crcL x (l ++ [b])=A8y (crcL x l) b.toNat
 | [],x,b=>rfl
 | c :: l,x,b=>Zk l _ b
structure Keep (R:Nat→Prop) (h h':Heap):Prop where
 next:h.next≤h'.next
 lp:h'.lp=h.lp
 gh:h'.gh=h.gh
 get:∀ b,R b→h'.get b=h.get b
theorem Keep.refl (R:Nat→Prop) (h:Heap):Keep R h h:=⟨Nat.le_refl _,rfl,rfl,fun _ _=>rfl⟩
theorem Keep.trans {R:Nat→Prop} {h h1 h2:Heap} (a:Keep R h h1) (b:Keep R h1 h2):Keep R h h2 :=
 ⟨Nat.le_trans a.next b.next,b.lp.trans a.lp,b.gh.trans a.gh,fun k hk=>(b.get k hk).trans (a.get k hk)⟩
theorem Keep.mono {R R':Nat→Prop} {h h':Heap} (a:Keep R h h') (hr:∀ b,R' b→R b):Keep R' h h':=⟨a.next,a.lp,a.gh,fun b hb=>a.get b (hr b hb)⟩
theorem Keep.got {R:Nat→Prop} {h h':Heap} (a:Keep R h h') {b:Nat} {cs:List AV} (hb:R b) (hg:h.get b=some cs):h'.get b=some cs:=(a.get b hb).trans hg
theorem Keep.alloc {R:Nat→Prop} {h h':Heap} (a:Keep R h h') (cs:List AV) (hr:∀ b,R b→b < h.next):Keep R h (h'.alloc cs) :=
 ⟨Nat.le_succ_of_le a.next,a.lp,a.gh,fun b hb=>by rw [Heap.Aa,if_neg (by have:=hr b hb;have:=a.next;omega)];exact a.get b hb⟩
theorem Keep.put {R:Nat→Prop} {h h':Heap} (a:Keep R h h') {k:Nat} (cs:List AV) (hr:¬R k):Keep R h (h'.put k cs) :=
 ⟨a.next,a.lp,a.gh,fun b hb=>by
  have hne:b≠k:=fun e=>hr (e ▸ hb)
  rw [←a.get b hb]
  unfold Heap.put Heap.get
  simp only [Tr.Mc,if_neg hne]⟩
theorem Keep.kill {R:Nat→Prop} {h h':Heap} (a:Keep R h h') {k:Nat} (hr:¬R k):Keep R h (h'.kill k) :=
 ⟨a.next,a.lp,a.gh,fun b hb=>by rw [Heap.Ek,if_neg (fun e:b=k=>hr (e ▸ hb))];exact a.get b hb⟩
abbrev Asn:=Heap→(Nat→Prop)→Prop
structure Loc (A:Asn):Prop where
 keep:∀ h h' F,A h F→(∀ b,F b→h'.get b=h.get b)→A h' F
 live:∀ h F b,A h F→F b→b < h.next
def At (A:Asn) (R:Nat→Prop) (h:Heap):Prop:= ∃ F,A h F∧∀ b,R b→¬F b∧b < h.next
section
variable {A:Asn} {R R':Nat→Prop} {h h':Heap}
theorem At.mono (a:At A R h) (hr:∀ b,R' b→R b):At A R' h:=by
 obtain ⟨F,h1,h2⟩:=a
 exact ⟨F,h1,fun b hb=>h2 b (hr b hb)⟩
theorem At.alloc (L:Loc A) (a:At A R h) (cs:List AV):At A (fun b=>R b∨b=h.next) (h.alloc cs):=by
 obtain ⟨F,h1,h2⟩:=a
 refine ⟨F,L.keep _ _ _ h1 (fun b hb=> ?_),fun b hb=> ?_⟩
 ·have:=L.live _ _ _ h1 hb
  rw [Heap.Aa,if_neg ω]
 ·rcases hb with hb|rfl
  ·exact ⟨(h2 b hb).1,Nat.lt_succ_of_lt (h2 b hb).2⟩
  ·exact ⟨fun hf=>by have:=L.live _ _ _ h1 hf;omega,Nat.lt_succ_self _⟩
theorem At.put (L:Loc A) (a:At A R h) {k:Nat} (cs:List AV) (hk:R k):At A R (h.put k cs):=by
 obtain ⟨F,h1,h2⟩:=a
 refine ⟨F,L.keep _ _ _ h1 (fun b hb=> ?_),fun b hb=>h2 b hb⟩
 have hne:b≠k:=fun e=>(h2 k hk).1 (e ▸ hb)
 unfold Heap.put Heap.get
 simp only [Tr.Mc,if_neg hne]
theorem At.kill (L:Loc A) (a:At A R h) {k:Nat} (hk:R k):At A R (h.kill k):=by
 obtain ⟨F,h1,h2⟩:=a
 refine ⟨F,L.keep _ _ _ h1 (fun b hb=> ?_),fun b hb=>h2 b hb⟩
 rw [Heap.Ek,if_neg (fun e:b=k=>(h2 k hk).1 (e ▸ hb))]
theorem At.more (L:Loc A) (a:At A R h):At A R h:=a
theorem At.lt (a:At A R h) {b:Nat} (hb:R b):b < h.next:=by obtain ⟨F,_,h2⟩:=a;exact (h2 b hb).2
end
def evA (w:Int×Txt):AV:= .iface 194 (.agg [.int .i64 w.1,S w.2])
@[simp] theorem evA_atom (w:Int×Txt):(evA w).atom=true:=id rfl
@[simp] theorem evA_cells (w:Int×Txt):(evA w).cells=[evA w]:=id rfl
def Dx (ws:AV) (l:List (Int×Txt)) (h:Heap) (F:Nat→Prop):Prop :=
 (ws = .nilSl∧l=[]∧∀ b,¬F b)∨∃ wb c cells,ws = .sl wb 0 l.length c 1∧h.get wb=some cells∧cells.length=c∧l.length≤c∧cells.take l.length=l.map evA∧∀ b,F b↔b=wb
def DskA (p:Nat) (d:Dsk):Asn:=fun h F=> ∃ bs ws G,h.get p=some [.sl bs 0 d.secs.length d.secs.length 1,.int .i64 d.size,ws,.bool d.gone]∧h.get bs=some (d.secs.map S)∧Dx ws d.waits h G ∧
 p≠bs∧¬G p∧¬G bs∧∀ b,F b↔b=p∨b=bs∨G b
theorem Dx.keep {ws:AV} {l:List (Int×Txt)} {h h':Heap} {F:Nat→Prop} (w:Dx ws l h F) (hk:∀ b,F b→h'.get b=h.get b):Dx ws l h' F:=by
 rcases w with w|⟨wb,c,cells,h1,h2,h3,h4,h5,h6⟩
 ·exact .inl w
 ·exact .inr ⟨wb,c,cells,h1,(hk wb ((h6 wb).2 rfl)).trans h2,h3,h4,h5,h6⟩
theorem Dx.live {ws:AV} {l:List (Int×Txt)} {h:Heap} {F:Nat→Prop} (w:Dx ws l h F) {b:Nat} (hb:F b):b < h.next:=by
 rcases w with ⟨_,_,h3⟩|⟨wb,c,cells,h1,h2,h3,h4,h5,h6⟩
 ·exact (h3 b hb).elim
 ·rw [(h6 b).1 hb];exact Heap.Ah h2
theorem DskA.loc (p:Nat) (d:Dsk):Loc (DskA p d):=by
 constructor
 ·rintro h h' F ⟨bs,ws,G,h1,h2,h3,h4,h5,h6,h7⟩ hk
  exact ⟨bs,ws,G,(hk p ((h7 p).2 (.inl rfl))).trans h1,(hk bs ((h7 bs).2 (.inr (.inl rfl)))).trans h2,h3.keep (fun b hb=>hk b ((h7 b).2 (.inr (.inr hb)))),h4,h5,h6,h7⟩
 ·rintro h F b ⟨bs,ws,G,h1,h2,h3,h4,h5,h6,h7⟩ hb
  rcases (h7 b).1 hb with rfl|rfl|hb
  ·exact Heap.Ah h1
  ·exact Heap.Ah h2
  ·exact h3.live hb
def Dt (ps:List Nat) (ds:List Dsk):Asn:=fun h F=>ps.length=ds.length∧∃ Fs:Nat→Nat→Prop,(∀ i p d,ps[i]? = some p→ds[i]? = some d→DskA p d h (Fs i))∧(∀ i j b,i < ds.length→j < ds.length→i≠j→Fs i b→¬Fs j b) ∧
 ∀ b,F b↔∃ i,i < ds.length∧Fs i b
theorem Dt.loc (ps:List Nat) (ds:List Dsk):Loc (Dt ps ds):=by
 constructor
 ·rintro h h' F ⟨hl,Fs,h1,h2,h3⟩ hk
  refine ⟨hl,Fs,fun i p d hp hd=>(DskA.loc p d).keep _ _ _ (h1 i p d hp hd) (fun b hb=>hk b ((h3 b).2 ⟨i,(List.getElem?_eq_some_iff.1 hd).1,hb⟩)),h2,h3⟩
 ·rintro h F b ⟨hl,Fs,h1,h2,h3⟩ hb
  obtain ⟨i,hi,hb⟩:=(h3 b).1 hb
  exact (DskA.loc _ _).live _ _ _ (h1 i _ _ (List.getElem?_eq_getElem ω) (List.getElem?_eq_getElem hi)) hb
theorem Dt.focus {ps:List Nat} {ds:List Dsk} {h:Heap} {F:Nat→Prop} (a:Dt ps ds h F) {i:Nat} {d:Dsk} (hd:ds[i]? = some d) :
  ∃ (p:Nat) (Fi Fo:Nat→Prop),ps[i]? = some p∧DskA p d h Fi∧(∀ b,Fi b→¬Fo b)∧(∀ b,F b↔Fi b∨Fo b)∧∀ (d':Dsk) (h':Heap) (Fi':Nat→Prop),DskA p d' h' Fi'→(∀ b,Fo b→¬Fi' b)→(∀ b,Fo b→h'.get b=h.get b)→Dt ps (ds.set i d') h' (fun b=>Fi' b∨Fo b):=by
 obtain ⟨hl,Fs,h1,h2,h3⟩:=a
 have hi:=(List.getElem?_eq_some_iff.1 hd).1
 have hp:ps[i]? = some ps[i]:=List.getElem?_eq_getElem ω
 refine ⟨ps[i],Fs i,fun b=> ∃ j,j < ds.length∧j≠i∧Fs j b,hp,h1 i _ d hp hd,?_,fun b=> ?_,?_⟩
 ·rintro b hb ⟨j,hj,hne,hb2⟩
  exact h2 j i b hj hi hne hb2 hb
 ·rw [h3]
  constructor
  ·rintro ⟨j,hj,hb⟩
   by_cases hji:j=i
   ·subst hji;exact .inl hb
   ·exact .inr ⟨j,hj,hji,hb⟩
  ·rintro (hb|⟨j,hj,_,hb⟩)
   ·exact ⟨i,hi,hb⟩
   ·exact ⟨j,hj,hb⟩
 ·intro d' h' Fi' hA hdis hk
  refine ⟨by simp [hl],fun j=>if j=i then Fi' else Fs j,fun j p e hp' he=> ?_,fun j k b hj hk' hne=> ?_,fun b=> ?_⟩
  ·by_cases hji:j=i
   ·subst hji
    simp only [if_pos rfl]
    rw [hp] at hp'
    cases hp'
    rw [List.getElem?_set_self hi] at he
    cases he
    exact hA
   ·simp only [if_neg hji]
    rw [List.getElem?_set_ne (Ne.symm hji)] at he
    have hjd:=(List.getElem?_eq_some_iff.1 he).1
    exact (DskA.loc p e).keep _ _ _ (h1 j p e hp' he) (fun b hb=>hk b ⟨j,hjd,hji,hb⟩)
  ·rw [List.length_set] at hj hk'
   dsimp only
   by_cases hji:j=i
   ·subst hji
    rw [if_pos rfl,if_neg (Ne.symm hne)]
    exact fun hb hb2=>hdis b ⟨k,hk',Ne.symm hne,hb2⟩ hb
   ·by_cases hki:k=i
    ·subst hki
     rw [if_neg hne,if_pos rfl]
     exact fun hb hb2=>hdis b ⟨j,hj,hne,hb⟩ hb2
    ·rw [if_neg hji,if_neg hki]
     exact h2 j k b hj hk' hne
  ·rw [List.length_set]
   constructor
   ·rintro (hb|⟨j,hj,hji,hb⟩)
    ·exact ⟨i,hi,by dsimp only;rw [if_pos rfl];exact hb⟩
    ·exact ⟨j,hj,by dsimp only;rw [if_neg hji];exact hb⟩
   ·rintro ⟨j,hj,hb⟩
    by_cases hji:j=i
    ·rw [if_pos hji] at hb;exact .inl hb
    ·rw [if_neg hji] at hb;exact .inr ⟨j,hj,hji,hb⟩
def ArrA (p:Nat) (a:Arr):Asn:=fun h F=> ∃ x ps G,h.get p=some [x,.int .i64 a.left,.bool a.down]∧Dt ps a.disks h G∧¬G p ∧
 ((x = .nilSl∧ps=[]∧∀ b,F b↔b=p∨G b)∨∃ q n cells,x = .sl q 0 ps.length n 1∧h.get q=some cells∧cells.length=n∧ps.length≤n∧cells.take ps.length=ps.map (fun p=>AV.ptr p 0)∧q≠p∧¬G q∧∀ b,F b↔b=p∨b=q∨G b)
theorem ArrA.loc (p:Nat) (a:Arr):Loc (ArrA p a):=by
 constructor
 ·rintro h h' F ⟨x,ps,G,h1,h2,h3,h4⟩ hk
  rcases h4 with ⟨h5,h6,h7⟩|⟨q,n,cells,h5,h6,h7,h8,h9,h10,h11,h12⟩
  ·exact ⟨x,ps,G,(hk p ((h7 p).2 (.inl rfl))).trans h1,(Dt.loc ps _).keep _ _ _ h2 (fun b hb=>hk b ((h7 b).2 (.inr hb))),h3,.inl ⟨h5,h6,h7⟩⟩
  ·exact ⟨x,ps,G,(hk p ((h12 p).2 (.inl rfl))).trans h1,(Dt.loc ps _).keep _ _ _ h2 (fun b hb=>hk b ((h12 b).2 (.inr (.inr hb)))),h3,
    .inr ⟨q,n,cells,h5,(hk q ((h12 q).2 (.inr (.inl rfl)))).trans h6,h7,h8,h9,h10,h11,h12⟩⟩
 ·rintro h F b ⟨x,ps,G,h1,h2,h3,h4⟩ hb
  rcases h4 with ⟨h5,h6,h7⟩|⟨q,n,cells,h5,h6,h7,h8,h9,h10,h11,h12⟩
  ·rcases (h7 b).1 hb with rfl|hb
   ·exact Heap.Ah h1
   ·exact (Dt.loc ps _).live _ _ _ h2 hb
  ·rcases (h12 b).1 hb with rfl|rfl|hb
   ·exact Heap.Ah h1
   ·exact Heap.Ah h6
   ·exact (Dt.loc ps _).live _ _ _ h2 hb
open Go.RowKit
set_option maxRecDepth 100000
section
variable {P:Program} {t:TypeId}
@[simp] theorem tyK_ptr {e:TypeId} : tyK (some (.pointer e))=3:=id rfl
@[simp] theorem tyK_slice {e:TypeId} : tyK (some (.slice e))=2:=id rfl
@[simp] theorem Ak9 (h:tyK (P.underlying t)=3) {b o:Nat} : binX P .eql t (.ptr b o) .nilPtr=some (.bool false):=by simp [binX,eqX,h,AV.cls,AV.Md]
@[simp] theorem Ahm (h:tyK (P.underlying t)=3) {b o:Nat} : binX P .neq t (.ptr b o) .nilPtr=some (.bool true):=by simp [binX,eqX,h,AV.cls,AV.Md]
@[simp] theorem Aka (h:tyK (P.underlying t)=3):binX P .eql t .nilPtr .nilPtr=some (.bool true):=by simp [binX,eqX,h,AV.cls,AV.Md]
@[simp] theorem Ahn (h:tyK (P.underlying t)=3):binX P .neq t .nilPtr .nilPtr=some (.bool false):=by simp [binX,eqX,h,AV.cls,AV.Md]
@[simp] theorem binX_sl_eq (h:tyK (P.underlying t)=2) {b o n c z:Nat} : binX P .eql t (.sl b o n c z) .nilSl=some (.bool false):=by simp [binX,eqX,h,AV.cls,AV.Md]
@[simp] theorem Akb (h:tyK (P.underlying t)=2):binX P .eql t .nilSl .nilSl=some (.bool true):=by simp [binX,eqX,h,AV.cls,AV.Md]
end
@[simp] theorem snap_iface {h:Heap} {al:Bool} {k:Nat} {t:TypeId} {v:AV} : snap h al (k+1) (.iface t v)=(snap h al k v).map (.iface t):=by
 simp only [snap]
 cases snap h al k v<;>rfl
theorem A6r {P:Program} {t xt:TypeId} (ha:apT P t xt=true) {w:Int×Txt} {x:AV} {l:List (Int×Txt)} {h:Heap} {G:Nat→Prop} (hx:Dx x l h G) (hn:l.length < 2 ^ 40) :
  ∃ x' h' G',Bm P (h.alloc [evA w]) t xt x (.sl h.next 0 1 1 1)=some (x',h')∧Dx x' (l ++ [w]) h' G'∧(∀ b,G' b→G b∨h.next≤b)∧(∀ b,b < h.next→¬G b→h'.get b=h.get b)∧h.next≤h'.next∧h'.lp=h.lp∧h'.gh=h.gh∧x'.atom=true:=by
 obtain ⟨e,bytes,z,he,hz,hap,hb,hb2,hza,hat⟩:=Nh ha
 have hf:Ca (h.alloc [evA w]) 1 1 (.sl h.next 0 1 1 1)=some [evA w]:=by simp [Ca,Heap.Aa]
 rcases hx with ⟨rfl,rfl,h0⟩|⟨wb,c,cells,rfl,hg,hcl,hle,htk,hG⟩
 ·have h64:bytes≤2 ^ 47:=by omega
  refine ⟨.sl (h.next+1) 0 1 1 1,(h.alloc [evA w]).alloc [evA w],fun b=>b=h.next+1,?_,.inr ⟨h.next+1,1,[evA w],rfl,?_,rfl,μ,μ,μ⟩,fun b hb=> .inr ω,fun b hb _=> ?_,by simp;omega,rfl,rfl,rfl⟩
  ·simp [Bm,Bu he,hz,hb,AV.len?,hap,hf,h64]
  ·exact Heap.A9 (h.alloc [evA w]) _
  ·rw [Heap.Aa,if_neg (by simp;omega),Heap.Aa,if_neg ω]
 ·have hwl:=Heap.Ah hg
  have hga:(h.alloc [evA w]).get wb=some cells:=Heap.Ag hg
  by_cases hc:l.length+1≤c
  ·have hlc:l.length < cells.length:=by omega
   refine ⟨.sl wb 0 (l.length+1) c 1,(h.alloc [evA w]).put wb (cells.set l.length (evA w)),fun b=>b=wb,?_,.inr ⟨wb,c,cells.set l.length (evA w),μ,?_,by simp [hcl],by simpa using hc,?_,μ⟩,
    fun b hb=> .inl ((hG b).2 hb),fun b hb hnG=> ?_,μ,rfl,rfl,rfl⟩
   ·simp [Bm,Bu he,hz,hb,AV.len?,hap,hf,hga,hc,Nj,hlc]
   ·rw [Heap.Ad _ _ _ _ (by simp;omega),if_pos rfl]
   ·rw [List.length_append,List.map_append,←htk]
    apply List.ext_getElem?
    intro i
    simp only [List.length_cons,List.length_nil,Nat.zero_add,List.map_cons,List.map_nil]
    rw [List.getElem?_take,List.getElem?_append,List.length_take,Nat.min_eq_left ω]
    by_cases h1:i < l.length
    ·rw [if_pos ω,if_pos h1,List.getElem?_set_ne ω,List.getElem?_take,if_pos h1]
    ·by_cases h2:i=l.length
     ·subst h2
      rw [if_pos ω,if_neg h1,List.getElem?_set_self hlc,Nat.sub_self];rfl
     ·rw [if_neg ω,if_neg h1]
      rw [List.getElem?_eq_none (by simp;omega)]
   ·have hne:b≠wb:=fun e=>hnG ((hG b).2 e)
    rw [Heap.Ad _ _ _ _ (by simp;omega),if_neg hne,Heap.Aa,if_neg ω]
  ·have hcl2:c=l.length:=by omega
   have htc:cells=l.map evA:=by rw [←htk,List.take_of_length_le ω]
   have hsz:(l.length+1) * bytes≤2 ^ 47:=by
    have:(l.length+1) * bytes≤(2 ^ 40) * 64:=Nat.mul_le_mul ω hb2
    omega
   refine ⟨.sl (h.next+1) 0 (l.length+1) (l.length+1) 1,((h.alloc [evA w]).kill wb).alloc (l.map evA ++ [evA w]),fun b=>b=h.next+1,?_,.inr ⟨h.next+1,l.length+1,l.map evA ++ [evA w],μ,?_,μ,μ,?_,μ⟩,
    fun b hb=> .inr ω,fun b hb hnG=> ?_,by simp;omega,rfl,rfl,rfl⟩
   ·have h47:l.length+1≤2 ^ 47:=by omega
    simp [Bm,Bu he,hz,hb,AV.len?,hap,hf,hga,hc,hsz,h47,htc,takeN]
    rw [List.take_of_length_le μ]
   ·exact Heap.A9 ((h.alloc [evA w]).kill wb) _
   ·rw [List.take_of_length_le μ];simp
   ·have hne:b≠wb:=fun e=>hnG ((hG b).2 e)
    rw [Heap.Aa,if_neg (by show b≠h.next+1;omega),Heap.Ek,if_neg hne,Heap.Aa,if_neg ω]
theorem Pp {p:Nat} {d:Dsk} {h:Heap} {x0 x1 x2:AV} (k:h.get p=some [x0,x1,x2,.bool d.gone]):CSem Tryz.prog 63 [.ptr p 0] h fun x h'=>x = .int .i64 d.K9∧h'=h:=by
 refine CSem.body hm Tryz.func63 rfl κ κ (by simp [Tryz.ntmps63]) ?_
 cases hg:d.gone<;>rw [hg] at k<;>simp [Tryz.f63,k,hg,Dsk.K9,A8]
theorem Zm {p bs:Nat} {d:Dsk} {h:Heap} {x2:AV} (k:h.get p=some [.sl bs 0 d.secs.length d.secs.length 1,.int .i64 d.size,x2,.bool d.gone]) (n:Int) (s:Txt) :
  CSem Tryz.prog 129 [.ptr p 0,.int .i64 n,S s] h fun x h'=>x = .int .i64 (d.check n s)∧h'=h:=by
 refine CSem.body hm Tryz.func129 rfl κ κ (by simp [Tryz.ntmps129]) ?_
 simp [Tryz.f129]
 refine (Pp k).use ?_
 cases hg:d.gone
 rotate_left
 ·simp [hg,Dsk.K9,Dsk.check]
 by_cases h1:n < 0
 ·simp [hg,Dsk.K9,Dsk.check,h1]
 by_cases h2:(d.secs.length:Int)≤n
 ·simp [hg,Dsk.K9,Dsk.check,h1,h2,k,A8]
 by_cases h3:d.size < (s.length:Int)
 ·simp [hg,Dsk.K9,Dsk.check,h1,h2,h3,k,A8]
 ·simp [hg,Dsk.K9,Dsk.check,h1,h2,h3,k,A8]
theorem Ahp (w:Int×Txt) (n:Int):As Tryz.prog 131 [evA w,.int .i64 n] (.bool (decide (w.1=n))):=by
 refine As.Ba (k:=2) ?_
 refine CSem.body hm Tryz.func131 rfl κ κ (by simp [Tryz.ntmps131]) ?_
 have hst:∀ h:Heap,h.get 0=some [.int .i64 0,S []]→Hh Tryz.prog h 194 (.ptr 0 0) (.agg [.int .i64 w.1,S w.2])=some (h.put 0 [.int .i64 w.1,S w.2]):=by
  intro h hg
  rw [Aj,hg]
  simp [putN]
 have e1:=hst (Heap.empty.alloc [.int .i64 0,S []]) (Heap.A9 _ _)
 simp [Tryz.f131,evA,Jc,AV.cells,e1,A8,Heap.Ad,Heap.Aa]
theorem Ahq (w:Int×Txt) (n:Int) (h:Heap):CSem Tryz.prog 131 [evA w,.int .i64 n] h fun x' h'=>x' = .bool (decide (w.1=n))∧h'=h:=(Ahp w n).call (k:=3) (by simp [evA])
theorem At.dsk {p:Nat} {d:Dsk} {R:Nat→Prop} {h:Heap} (a:At (DskA p d) R h):∃ bs ws G,h.get p=some [.sl bs 0 d.secs.length d.secs.length 1,.int .i64 d.size,ws,.bool d.gone]∧h.get bs=some (d.secs.map S)∧Dx ws d.waits h G ∧
  p≠bs∧¬G p∧¬G bs∧(∀ b,R b→b≠p∧b≠bs∧¬G b∧b < h.next):=by
 obtain ⟨F,⟨bs,ws,G,h1,h2,h3,h4,h5,h6,h7⟩,hR⟩:=a
 exact ⟨bs,ws,G,h1,h2,h3,h4,h5,h6,fun b hb=>⟨fun e=>(hR b hb).1 ((h7 b).2 (.inl e)),fun e=>(hR b hb).1 ((h7 b).2 (.inr (.inl e))),fun hg=>(hR b hb).1 ((h7 b).2 (.inr (.inr hg))),(hR b hb).2⟩⟩
theorem At.A3x {p bs:Nat} {ws:AV} {d:Dsk} {G R:Nat→Prop} {h:Heap} (h1:h.get p=some [.sl bs 0 d.secs.length d.secs.length 1,.int .i64 d.size,ws,.bool d.gone]) (h2:h.get bs=some (d.secs.map S)) (h3:Dx ws d.waits h G)
  (h4:p≠bs) (h5:¬G p) (h6:¬G bs) (hR:∀ b,R b→b≠p∧b≠bs∧¬G b∧b < h.next):At (DskA p d) R h :=
 ⟨fun b=>b=p∨b=bs∨G b,⟨bs,ws,G,h1,h2,h3,h4,h5,h6,fun _=>Iff.rfl⟩,fun b hb=>⟨by have:=hR b hb;rintro (e|e|e);exact this.1 e;exact this.2.1 e;exact this.2.2.1 e,(hR b hb).2.2.2⟩⟩
theorem Dx.len {P:Program} {t:TypeId} (ht:(elT P t).isSome=true) {ws:AV} {l:List (Int×Txt)} {h:Heap} {G:Nat→Prop} (w:Dx ws l h G):lenX P t ws=some (.int .i64 (l.length:Int)):=by
 rcases w with ⟨rfl,rfl,_⟩|⟨wb,c,cells,rfl,_⟩
 ·simp [ht]
 ·simp [ht]
theorem Dx.atom {ws:AV} {l:List (Int×Txt)} {h:Heap} {G:Nat→Prop} (w:Dx ws l h G):ws.atom=true:=by
 rcases w with ⟨rfl,_⟩|⟨wb,c,cells,rfl,_⟩<;>rfl
theorem A1w {p:Nat} {d:Dsk} {R:Nat→Prop} {h:Heap} (a:At (DskA p d) R h):CSem Tryz.prog 39 [.ptr p 0] h fun x h'=>x = .int .i64 (d.waits.length:Int)∧h'=h:=by
 obtain ⟨bs,ws,G,k,k2,k3,h4,h5,h6,hR⟩:=a.dsk
 refine CSem.body hm Tryz.func39 rfl κ κ (by simp [Tryz.ntmps39]) ?_
 have hl:=k3.len (P:=Tryz.prog) (t:=106) μ
 simp [Tryz.f39,k,A8,hl]
theorem A6s {p:Nat} {d:Dsk} {R:Nat→Prop} {h:Heap} (a:At (DskA p d) R h):CSem Tryz.prog 95 [.ptr p 0] h fun x h'=>x = .bool (!d.gone)∧h'=h:=by
 obtain ⟨bs,ws,G,k,k2,k3,h4,h5,h6,hR⟩:=a.dsk
 refine CSem.body hm Tryz.func95 rfl κ κ (by simp [Tryz.ntmps95]) ?_
 simp [Tryz.f95]
 refine (Pp k).use ?_
 cases hg:d.gone<;>simp [Dsk.K9,hg]
theorem X0 {p:Nat} {d:Dsk} {R:Nat→Prop} {h:Heap} (a:At (DskA p d) R h) (hw:d.waits.length < 2 ^ 40) (n:Int) (s:Txt) :
  CSem Tryz.prog 113 [.ptr p 0,.int .i64 n,S s] h fun x h'=>x = .int .i64 (d.check n s)∧At (DskA p (d.write n s)) R h'∧Keep R h h':=by
 have a0:=a
 obtain ⟨bs,ws,G,k,k2,k3,h4,h5,h6,hR⟩:=a.dsk
 refine CSem.body hm Tryz.func113 rfl κ κ (by simp [Tryz.ntmps113]) ?_
 simp [Tryz.f113]
 refine (Zm k n s).use ?_
 by_cases hc:d.check n s=0
 rotate_left
 ·have hd:d.write n s=d:=by simp [Dsk.write,hc]
  simp [hc,hd]
  exact ⟨a0,Keep.refl R h⟩
 have hp:=Heap.Ah k
 have hbs:=Heap.Ah k2
 obtain ⟨x',h',G',e,w',g1,g2,g3,g4,g5,g6⟩:=A6r (P:=Tryz.prog) (t:=106) (xt:=106) κ (w:=(n,s)) k3 hw
 have hb:Ct Tryz.prog 194 [(0,.int .i64 n),(1,S s)]=some (.agg [.int .i64 n,S s]):=by kernel_rfl
 have hev:AV.iface 194 (.agg [.int .i64 n,S s])=evA (n,s):=rfl
 have kp:h'.get p=some [.sl bs 0 d.secs.length d.secs.length 1,.int .i64 d.size,ws,.bool d.gone]:=(g2 p hp h5).trans k
 have kb:h'.get bs=some (d.secs.map S):=(g2 bs hbs h6).trans k2
 have hp':=Heap.Ah kp
 simp [hc,k,A8,hb,hev,Bt (P:=Tryz.prog) (t:=106) (xt:=106) κ,e,kp,g6,Heap.Ad,hp']
 have hnR:¬R p:=fun hr=>(hR p hr).1 rfl
 have hd:d.write n s = { d with waits:=d.waits ++ [(n,s)] } := by simp [Dsk.write,hc]
 rw [hd]
 have G'p:¬G' p:=fun hg=>(g1 p hg).elim h5 (fun h=>by omega)
 have G'b:¬G' bs:=fun hg=>(g1 bs hg).elim h6 (fun h=>by omega)
 have hK:Keep R h h':=⟨g3,g4,g5,fun b hb=>g2 b (hR b hb).2.2.2 (hR b hb).2.2.1⟩
 refine ⟨?_,hK.put _ hnR⟩
 refine At.A3x (bs:=bs) (ws:=x') (G:=G') ?_ ?_ (w'.keep fun b hb=> ?_) h4 G'p G'b (fun b hb=>⟨(hR b hb).1,(hR b hb).2.1,fun hg=>(g1 b hg).elim (hR b hb).2.2.1 (fun h=>by have:=(hR b hb).2.2.2;omega),?_⟩)
 ·simp [Heap.Ad,hp']
 ·rw [Heap.Ad _ _ _ _ hp',if_neg (Ne.symm h4)];exact kb
 ·rw [Heap.Ad _ _ _ _ hp',if_neg (fun e:b=p=>G'p (e ▸ hb))]
 ·have:=(hR b hb).2.2.2
  show b < h'.next
  omega
theorem Aed (n z:Int) (hn:n < 2 ^ 62) (h:Heap):CSem Tryz.prog 52 [.int .i64 n,.int .i64 z] h fun x h'=>(¬DskP n z→x = .tup [.nilPtr,.int .i64 1]∧h'=h)∧(DskP n z→∃ p,x = .tup [.ptr p 0,.int .i64 0]∧At (DskA p (Ew n z)) (fun b=>b < h.next) h'∧Ext h h'):=by
 refine CSem.body hm Tryz.func52 rfl κ κ (by simp [Tryz.ntmps52]) ?_
 by_cases h1:n < 1
 ·have:¬DskP n z:=fun h=>by have:=h.1;omega
  simp [Tryz.f52,h1,this]
 by_cases h2:4096 < n
 ·have:¬DskP n z:=fun h=>by have:=h.2.1;omega
  simp [Tryz.f52,h1,h2,this]
 by_cases h3:z < 1
 ·have:¬DskP n z:=fun h=>by have:=h.2.2.1;omega
  simp [Tryz.f52,h1,h2,h3,this]
 by_cases h4:4096 < z
 ·have:¬DskP n z:=fun h=>by have:=h.2.2.2;omega
  simp [Tryz.f52,h1,h2,h3,h4,this]
 have hP:DskP n z:=⟨ω,ω,ω,ω⟩
 obtain ⟨N,rfl⟩:=Int.eq_ofNat_of_zero_le (show 0≤n by omega)
 have hN:N≤4096:=by omega
 have hb:∀ q:Nat,Ct Tryz.prog 108 [(0,.sl q 0 N N 1),(1,.int .i64 z)]=some (.agg [.sl q 0 N N 1,.int .i64 z,.nilSl,.bool false]):=fun q=>by kernel_rfl
 have h5:(16:Int) * N≤140737488355328:=by omega
 have h6:(N:Int)≤140737488355328:=by omega
 simp [Tryz.f52,h1,h2,h3,h4,hP,hb,h5,h6,AV.cells]
 refine ⟨?_,((Ext.refl h).alloc _).alloc _⟩
 refine At.A3x (bs:=h.next) (ws:= .nilSl) (G:=fun _=>False) ?_ ?_ (.inl ⟨rfl,rfl,fun _ h=>h⟩) ω (fun h=>h) (fun h=>h) (fun b hb=>⟨ω,ω,fun h=>h,by simp;omega⟩)
 ·simp [Ew,Heap.Aa]
 ·rw [Heap.Aa,if_neg μ,Heap.Aa,if_pos rfl]
  simp [Ew,List.map_replicate]
theorem do_sem {p bs:Nat} {h:Heap} {x1 x2 x3:AV} {l:List Txt} (k:h.get p=some [.sl bs 0 l.length l.length 1,x1,x2,x3]) (kb:h.get bs=some (l.map S)) {n:Int} (s:Txt) (h0:0≤n) (h1:n < l.length) :
  CSem Tryz.prog 220 [.agg [.int .i64 n,S s],.ptr p 0] h fun _ h'=>h'=(h.alloc [.int .i64 n,S s]).put bs ((l.set n.toNat s).map S):=by
 refine CSem.body hm Tryz.func220 rfl κ κ (by simp [Tryz.ntmps220]) ?_
 have hp:=Heap.Ah k
 have hb:=Heap.Ah kb
 have kp':(h.alloc [.int .i64 n,S s]).get p=some [.sl bs 0 l.length l.length 1,x1,x2,x3]:=Heap.Ag k
 have kb':(h.alloc [.int .i64 n,S s]).get bs=some (l.map S):=Heap.Ag kb
 have kn:(h.alloc [.int .i64 n,S s]).get h.next=some [.int .i64 n,S s]:=Heap.A9 _ _
 have hlt:n.toNat < l.length:=by omega
 simp [Tryz.f220,AV.cells]
 refine Br 9 κ ?_
 simp [kp',kb',kn,A8,h0,h1,hlt,List.map_set]
theorem Kz:∀ (l:List (Int×Txt)) (keep:List Bool) (s:List Txt) (w:Int×Txt),Dv (l ++ [w]) keep s=if keep[l.length]? = some true then (Dv l keep s).set w.1.toNat w.2 else Dv l keep s
 | [],[],s,w=>by simp [Dv]
 | [],k :: ks,s,w=>by cases k<;>simp [Dv]
 | v :: l,[],s,w=>by simp [Dv]
 | v :: l,k :: ks,s,w=>by
  have:=Kz l ks (if k then s.set v.1.toNat v.2 else s) w
  simpa [Dv] using this
theorem Hc:∀ (l:List (Int×Txt)) (keep:List Bool) (s:List Txt),(Dv l keep s).length=s.length
 | [],keep,s=>rfl
 | v :: l,[],s=>rfl
 | v :: l,k :: ks,s=>by
  have:=Hc l ks (if k then s.set v.1.toNat v.2 else s)
  rw [Dv,this]
  split<;>simp
theorem Dx.at {ws:AV} {l:List (Int×Txt)} {h:Heap} {G:Nat→Prop} (w:Dx ws l h G) {i:Nat} (hi:i < l.length):∃ wb c cells,ws = .sl wb 0 l.length c 1∧h.get wb=some cells∧cells[i]? = some (evA l[i]):=by
 rcases w with ⟨rfl,rfl,_⟩|⟨wb,c,cells,h1,h2,h3,h4,h5,h6⟩
 ·simp at hi
 ·refine ⟨wb,c,cells,h1,h2,?_⟩
  have:=congrArg (·[i]?) h5
  simp only [List.getElem?_take,if_pos hi,List.getElem?_map,List.getElem?_eq_getElem hi,Option.map_some] at this
  exact this
theorem X1 {p:Nat} {d:Dsk} {R:Nat→Prop} {h:Heap} (a:At (DskA p d) R h) (hW:DskW d) (hwl:d.waits.length < 2 ^ 40) (keep:List Bool) (hkl:keep.length < 2 ^ 62) :
  CSem Tryz.prog 40 [.ptr p 0,OL keep] h fun x h'=>x = .int .i64 d.K9∧At (DskA p (d.B3 keep)) R h'∧Keep R h h':=by
 have a0:=a
 obtain ⟨bs,ws,G,k,k2,k3,h4,h5,h6,hR⟩:=a.dsk
 refine CSem.body hm Tryz.func40 rfl κ κ (by simp [Tryz.ntmps40]) ?_
 simp [Tryz.f40]
 refine (Pp k).use ?_
 cases hg:d.gone
 rotate_left
 ·have hd:d.B3 keep=d:=by simp [Dsk.B3,hg]
  simp [Dsk.K9,hg,hd]
  exact ⟨a0,Keep.refl R h⟩
 have hl:=k3.len (P:=Tryz.prog) (t:=106) μ
 have hm1 : Zn Tryz.prog 194 "sheetpile/disk.do" = some 220 := by kernel_rfl
 have hnR:¬R p:=fun hr=>(hR p hr).1 rfl
 have hnB:¬R bs:=fun hr=>(hR bs hr).2.1 rfl
 have hp:=Heap.Ah k
 rw [hg] at k
 simp [Dsk.K9,hg,k,A8,hl]
 refine Ar (fun (i:Nat) r hp=>i≤d.waits.length∧rg r 0 = .ptr p 0∧rg r 1=OL keep∧rg r 16=ws∧rg r 17 = .int .i64 d.waits.length∧rg r 18 = .int .i64 i ∧
  hp.get p=some [.sl bs 0 d.secs.length d.secs.length 1,.int .i64 d.size,ws,.bool false]∧hp.get bs=some ((Dv (d.waits.take i) keep d.secs).map S)∧Dx ws d.waits hp G∧Keep R h hp) (d.waits.length - ·) ?_ 0 ?_
 ·rintro i r hp2 ⟨hi,g0,g1,g16,g17,g18,q1,q2,q3,q4⟩
  rcases Nat.lt_or_eq_of_le hi with hlt|heq
  ·obtain ⟨wb,c,cells,e1,e2,e3⟩:=q3.at hlt
   have hlt':(i:Int) < d.waits.length:=by omega
   have hnext:IntKind.i64.wrap ((i:Int)+1)=(i:Int)+1:=wrap64 ω ω
   have htk:d.waits.take (i+1)=d.waits.take i ++ [d.waits[i]]:=List.take_succ_eq_append_getElem hlt
   have htl:(d.waits.take i).length=i:=by simp;omega
   rw [e1] at g16
   have hci:i < cells.length:=(List.getElem?_eq_some_iff.1 e3).1
   have hcg:cells[i]=evA d.waits[i]:=by
    have:=e3
    rw [List.getElem?_eq_getElem hci] at this
    exact Option.some.inj this
   by_cases hk:i < keep.length
   ·have hy:keep[i]? = some keep[i]:=List.getElem?_eq_getElem hk
    cases hb:keep[i] with
    | true =>
     have hwi:=hW.waits d.waits[i] (List.getElem_mem hlt)
     have hcl:=Hc (d.waits.take i) keep d.secs
     have hsec:hp2.get p=some [.sl bs 0 (Dv (d.waits.take i) keep d.secs).length (Dv (d.waits.take i) keep d.secs).length 1,.int .i64 d.size,ws,.bool false]:=by rw [hcl];exact q1
     simp [g0,g1,g16,g17,g18,hlt',e2,e3,hcg,hk,hy,hb,evA,hm1]
     refine (do_sem hsec q2 d.waits[i].2 hwi.1 (by rw [hcl];exact hwi.2)).then ?_
     rintro x h' rfl
     have hbl:=Heap.Ah q2
     simp [g0,g1,g16,g17,g18,hnext]
     refine ⟨i+1,ω,ω,e1.symm,by push_cast;rfl,?_,?_,q3.keep fun b hb=> ?_,(q4.alloc _ (fun b hb=>(hR b hb).2.2.2)).put _ hnB⟩
     ·rw [Heap.Ad _ _ _ _ (by simp;omega),if_neg h4];exact Heap.Ag q1
     ·rw [Heap.Ad _ _ _ _ (by simp;omega),if_pos rfl,htk,Kz,htl,hy,hb,if_pos rfl,List.map_set]
     ·have hbn:b < hp2.next:=q3.live hb
      rw [Heap.Ad _ _ _ _ (by simp;omega),if_neg (fun e:b=bs=>h6 (e ▸ hb)),Heap.Aa,if_neg ω]
    | false =>
     simp [g0,g1,g16,g17,g18,hlt',e2,e3,hcg,hk,hy,hb,hnext]
     refine ⟨i+1,ω,ω,e1.symm,by push_cast;rfl,q1,?_,q3,q4⟩
     rw [htk,Kz,htl,hy,hb,if_neg μ];exact q2
   ·have hk':¬((i:Int) < keep.length):=by omega
    simp [g0,g1,g16,g17,g18,hlt',e2,e3,hcg,hk,hk',hnext]
    refine ⟨i+1,ω,ω,e1.symm,by push_cast;rfl,q1,?_,q3,q4⟩
    rw [htk,Kz,htl,List.getElem?_eq_none ω,if_neg μ];exact q2
  ·subst heq
   rw [List.take_length] at q2
   have hpl:=Heap.Ah q1
   have hcl:=Hc d.waits keep d.secs
   have hd:d.B3 keep = { d with secs:=Dv d.waits keep d.secs,waits:=[] } := by simp [Dsk.B3,hg]
   simp [g0,g1,g16,g17,g18,q1,A8]
   rw [hd]
   refine ⟨?_,q4.put _ hnR⟩
   refine At.A3x (bs:=bs) (ws:= .nilSl) (G:=fun _=>False) ?_ ?_ (.inl ⟨rfl,rfl,fun _ h=>h⟩) h4 (fun h=>h) (fun h=>h) (fun b hb=>⟨(hR b hb).1,(hR b hb).2.1,fun h=>h,by have:=(hR b hb).2.2.2;have:=q4.next;show b < hp2.next;omega⟩)
   ·simp [Heap.Ad,hpl,hg,hcl]
   ·rw [Heap.Ad _ _ _ _ hpl,if_neg (Ne.symm h4)];exact q2
 ·exact ⟨ω,μ,μ,μ,μ,μ,k,by simpa [Dv] using k2,k3,Keep.refl R h⟩
theorem Zp {P:Program} {h:Heap} {t:TypeId} {b off n c m:Nat} {s:AV} {cs new cs':List AV} (hz:(elT P t).bind (szT P)=some 1) (hm:s.len? = some m) (hg:h.get b=some cs)
  (hf:Ca h 1 (min m n) (cutX 1 (min m n) s)=some new) (hl:(cutX 1 (min m n) s).len? = some (min m n)) (ha:new.all AV.atom=true) (hn:new.length=min m n) (hp:putN cs off new=some cs') :
  Rs P h t (.sl b off n c 1) s=some (.int .i64 ((min m n:Nat):Int),h.put b cs'):=by
 obtain ⟨e,he,hz⟩:=Option.bind_eq_some_iff.1 hz
 simp only [Rs,Bu he,hz,hm,hg,hf,hl,ha,hn,Nat.mul_one,hp]
 simp
theorem Aee {n:Int} (h1:0≤n) (h2:n < 18446744073709551616):IntKind.u64.wrap n=n:=by
 simp only [IntKind.wrap,IntKind.bits,IntKind.signed]
 simp
 omega
theorem andU {a:Nat} (ha:a < 4294967296):intX .and .u64 (a:Int) 4294967295=some (.int .u64 (a:Int)):=by
 simp only [intX]
 have e:(BitVec.ofInt IntKind.u64.bits (a:Int) &&& BitVec.ofInt IntKind.u64.bits 4294967295).toNat=a:=by
  show (BitVec.ofInt 64 (a:Int) &&& BitVec.ofInt 64 4294967295).toNat=_
  rw [BitVec.toNat_and,BitVec.toNat_ofInt,BitVec.toNat_ofInt]
  have h1:((a:Int) % ((2 ^ 64:Nat):Int)).toNat=a:=by omega
  have h2:((4294967295:Int) % ((2 ^ 64:Nat):Int)).toNat=2 ^ 32 - 1:=by decide
  rw [h1,h2,Nat.and_two_pow_sub_one_eq_mod]
  omega
 rw [e,Aee ω ω]
theorem Aef {a:Nat} (ha:a < 4294967296):Fv .shr .u64 (a:Int) 32=some (.int .u64 0):=by
 simp [Fv,IntKind.bits]
 rw [Int.fdiv_eq_ediv_of_nonneg _ ν]
 omega
theorem A6t (n:Nat) (hn:n < 4294967296):As Tryz.prog 163 [.int .u64 1,.int .u64 n] (.tup [.int .u64 0,.int .u64 n]):=by
 refine As.Ba (k:=2) ?_
 refine CSem.body hm Tryz.func163 rfl κ κ (by simp [Tryz.ntmps163]) ?_
 have a1:intX .and .u64 1 4294967295=some (.int .u64 1):=andU (a:=1) ν
 have a2:=andU hn
 have a3:intX .and .u64 0 4294967295=some (.int .u64 0):=andU (a:=0) ν
 have s1:Fv .shr .u64 1 32=some (.int .u64 0):=Aef (a:=1) ν
 have s2:=Aef hn
 have s3:Fv .shr .u64 0 32=some (.int .u64 0):=Aef (a:=0) ν
 have w0:IntKind.u64.wrap (n:Int)=n:=Aee ω ω
 have w1:IntKind.u64.wrap 0=0:=by decide
 simp [Tryz.f163,a1,a2,a3,s1,s2,s3,w0,w1]
theorem Aeg (n:Nat) (hn:n < 4294967296) (h:Heap):CSem Tryz.prog 138 [.int .u64 1,.int .u64 n] h fun x' h'=>x' = .tup [.int .u64 0,.int .u64 n]∧h'=h:=by
 refine (As.Ba (k:=2) ?_:As Tryz.prog 138 [.int .u64 1,.int .u64 n] (.tup [.int .u64 0,.int .u64 n])).call (k:=2) μ
 refine CSem.body hm Tryz.func138 rfl κ κ (by simp [Tryz.ntmps138]) ?_
 simp [Tryz.f138]
 refine ((A6t n hn).call (k:=2) μ).use ?_
 simp
theorem A3y (n:Nat) (hn:n < 2 ^ 31):As Tryz.prog 105 [OL [true],.int .i64 n] (OL (List.replicate n true)):=by
 refine As.Ba (k:=2) ?_
 refine CSem.body hm Tryz.func105 rfl κ κ (by simp [Tryz.ntmps105]) ?_
 have h0:¬((n:Int) < 0):=by omega
 have w0:IntKind.u64.wrap (n:Int)=n:=Aee ω ω
 have w1:IntKind.u64.wrap 1=1:=by decide
 have w2:IntKind.i64.wrap (n:Int)=n:=wrap64 ω ω
 have h1:¬((9223372036854775807:Int) < n):=by omega
 simp [Tryz.f105,h0,Sv,w0,w1]
 refine (Aeg n ω _).use ?_
 have h2:(n:Int)≤140737488355328:=by omega
 simp [h1,Sv,w2,h2]
 have hst:∀ j:Nat,j≤n→(List.replicate j true ++ List.replicate (n - j) false).map AV.bool=List.replicate j (AV.bool true) ++ List.replicate (n - j) (AV.bool false):=fun j _=>by simp
 have e1:=Zp (P:=Tryz.prog) (h:=Heap.empty.alloc (List.replicate n (AV.bool false))) (t:=56) (b:=0) (off:=0) (n:=n) (c:=n) (m:=1) (s:=OL [true]) (cs:=List.replicate n (AV.bool false)) (new:=List.replicate (min 1 n) (AV.bool true))
  (cs':=List.replicate (min 1 n) (AV.bool true) ++ List.replicate (n - min 1 n) (AV.bool false)) μ (by simp [TL,AV.len?]) (Heap.A9 _ _)
  (by rcases Nat.eq_zero_or_pos n with h|h
      ·subst h;simp [cutX,TL,Ca,takeN]
      ·simp [cutX,TL,Ca,takeN,show min 1 n=1 by omega])
  (by simp [cutX,TL,AV.len?]) μ μ
  (by rcases Nat.eq_zero_or_pos n with h|h
      ·subst h;simp [putN]
      ·simp [putN,show min 1 n=1 by omega];omega)
 simp [e1]
 refine Ar (fun (j:Nat) r hp=>j≤n∧(0 < n→0 < j)∧rg r 7 = .sl 0 0 n n 1∧rg r 8 = .int .i64 (j:Int)∧hp.get 0=some (List.replicate j (AV.bool true) ++ List.replicate (n - j) (AV.bool false))) (n - ·) ?_ (min 1 n) ?_
 ·rintro j r hp ⟨hj,hpos,g7,g8,k0⟩
  rcases Nat.lt_or_eq_of_le hj with hlt|heq
  ·have hlt':(j:Int) < n:=by omega
   have hj0:0 < j:=hpos ω
   obtain ⟨q,hq⟩:∃ q,q=min j (n - j):=⟨_,rfl⟩
   have hq1:0 < q:=by omega
   have hq2:q≤j:=by omega
   have hq3:j+q≤n:=by omega
   have hw:IntKind.i64.wrap ((j:Int)+(q:Int))=((j+q:Nat):Int):=by rw [wrap64 ω ω];push_cast;rfl
   have e2:=Zp (P:=Tryz.prog) (h:=hp) (t:=56) (b:=0) (off:=j) (n:=n - j) (c:=n - j) (m:=j) (s:= .sl 0 0 j n 1) (cs:=List.replicate j (AV.bool true) ++ List.replicate (n - j) (AV.bool false)) (new:=List.replicate q (AV.bool true))
    (cs':=List.replicate (j+q) (AV.bool true) ++ List.replicate (n - (j+q)) (AV.bool false)) μ rfl k0
    (by rw [←hq]
        simp only [cutX,Ca,k0,takeN,Nat.mul_one,Nat.zero_add,List.drop_zero]
        rw [if_pos (by simp;omega),List.take_append_of_le_length (by simpa using hq2),List.take_replicate,Nat.min_eq_left hq2])
    (by simp [cutX,AV.len?]) μ (by simp [hq])
    (by rw [putN,if_pos (by simp;omega)]
        congr 1
        rw [List.take_append_of_le_length μ,List.take_of_length_le μ,List.drop_append,List.length_replicate,List.length_replicate]
        rw [List.drop_of_length_le μ,List.nil_append,List.drop_replicate,List.replicate_append_replicate]
        congr 2;omega)
   rw [←hq] at e2
   simp [g7,g8,hlt']
   refine Aeh 7 3 κ ?_
   simp [g7,g8,hlt',Sz,hj,e2,hw]
   refine ⟨j+q,ω,ω,fun _=>by omega,rfl,?_⟩
   rw [Heap.Ad _ _ _ _ (Heap.Ah k0),if_pos rfl]
  ·subst heq
   have hr:hp.get 0=some ((List.replicate j true).map AV.bool):=by rw [k0];simp
   have hs:X.snap hp false 2 (.sl 0 0 j j 1)=some (OL (List.replicate j true)):=F8 (f:=AV.bool) (l:=List.replicate j true) hr μ (fun _=>rfl)
   simp [g7,g8]
   exact hs
 ·exact ⟨ω,ω,μ,μ,by simp [Heap.Ad,Heap.Aa]⟩
theorem A6u {p:Nat} {d:Dsk} {R:Nat→Prop} {h:Heap} (a:At (DskA p d) R h) (hW:DskW d) (hwl:d.waits.length < 2 ^ 30) :
  CSem Tryz.prog 77 [.ptr p 0] h fun x h'=>x = .int .i64 d.K9∧At (DskA p d.flush) R h'∧Keep R h h':=by
 have a0:=a
 obtain ⟨bs,ws,G,k,k2,k3,h4,h5,h6,hR⟩:=a.dsk
 refine CSem.body hm Tryz.func77 rfl κ κ (by simp [Tryz.ntmps77]) ?_
 simp [Tryz.f77]
 refine (Pp k).use ?_
 by_cases hg:d.K9=0
 rotate_left
 ·have hd:d.flush=d:=by
   unfold Dsk.K9 at hg
   have:d.gone=true:=by cases hh:d.gone<;>simp_all
   simp [Dsk.flush,Dsk.B3,this]
  simp [hg,hd]
  exact ⟨a0,Keep.refl R h⟩
 have hl:=k3.len (P:=Tryz.prog) (t:=106) μ
 have ka:(h.alloc [.bool true]).get p=some [.sl bs 0 d.secs.length d.secs.length 1,.int .i64 d.size,ws,.bool d.gone]:=Heap.Ag k
 simp [hg,ka,A8,hl,Bt (P:=Tryz.prog) (t:=56) (xt:=56) κ]
 have hs:snap (h.alloc [.bool true]) true 2 (.sl h.next 0 1 1 1)=some (OL [true]):=F8 (f:=AV.bool) (l:=[true]) (Heap.A9 _ _) rfl (fun _=>rfl)
 refine ((A3y d.waits.length ω).call (k:=2) (h:=h.alloc [.bool true]) (args:=[.sl h.next 0 1 1 1,.int .i64 d.waits.length]) (by simp [hs])).use ?_
 have a1:=(a0.alloc (DskA.loc p d) [.bool true])
 simp
 refine (X1 a1 hW ω (List.replicate d.waits.length true) (by simp;omega)).then ?_
 rintro x h' ⟨rfl,b1,b2⟩
 simp [hg]
 refine ⟨b1.mono (fun b hb=> .inl hb),?_⟩
 exact ((Keep.refl R h).alloc _ (fun b hb=>(hR b hb).2.2.2)).trans (b2.mono (fun b hb=> .inl hb))
theorem A6v {Q:Out→Regs→Heap→Prop} {r:Regs} {x:AV} {h':Heap} {lp:Lp} (e:h'.lp=some lp) (hs:lp.st = .done .ret) (hq:Q .ret r (h'.Bp none)):Vu Q r x h':=⟨lp,e,by rw [hs];exact hq⟩
theorem A1x {Q:Out→Regs→Heap→Prop} {r:Regs} {x:AV} {h':Heap} {lp:Lp} (e:h'.lp=some lp) (hs:lp.st = .ready) (hq:Q .norm r (h'.Bp none)):Vu Q r x h':=⟨lp,e,by rw [hs];exact hq⟩
theorem Aay (x:AV) (hx:x.atom=true) (h:Heap):CSem Tryz.prog 130 [x] h fun x' h'=>x' = .fn 155 [] [.ptr h.next 0]∧h'=h.alloc [x]:=by
 refine CSem.body hm Tryz.func130 rfl κ κ (by simp [Tryz.ntmps130]) ?_
 simp [Tryz.f130,G9 hx,hx]
theorem A6w {id:Nat} {b:Nat} {ws:AV} {l:List (Int×Txt)} (hn:l.length < 2 ^ 40) (J:Nat→Heap→Prop) (D:Heap→Prop)
  (hJ:∀ i h,J i h→h.get b=some [ws]∧∃ G,Dx ws l h G)
  (hstep:∀ i h (hi:i < l.length),J (i+1) h→YSem Tryz.prog id [.int .i64 (i:Int),evA l[i]] h fun v h'=>(v = .bool true∧J i h')∨(v = .bool false∧D h')) {h:Heap} (h0:J l.length h) :
  CSem Tryz.prog 155 [.yld id,.ptr b 0] h fun _ h'=>J 0 h'∨D h':=by
 refine CSem.body hm Tryz.func155 rfl κ κ (by simp [Tryz.ntmps155]) ?_
 obtain ⟨k1,G,k2⟩:=hJ _ _ h0
 have hl:=k2.len (P:=Tryz.prog) (t:=106) μ
 simp [Tryz.f155,k1,hl,wrap64 (n:=(l.length:Int) - 1) ω ω]
 refine Ar (fun (i:Nat) r h=>i≤l.length∧rg r 0 = .yld id∧rg r 1 = .ptr b 0∧rg r 3 = .int .i64 ((i:Int) - 1)∧J i h) (fun i=>i) ?_ l.length ?_
 ·rintro i r h ⟨hi,g0,g1,g3,hj⟩
  obtain ⟨k1,G,k2⟩:=hJ _ _ hj
  cases i with
  | zero=>simp [g0,g1,g3,hj]
  | succ i =>
   have e:((i+1:Nat):Int) - 1=(i:Int):=by omega
   rw [e] at g3
   have hil:i < l.length:=by omega
   obtain ⟨wb,c,cells,rfl,e2,e3⟩:=k2.at hil
   simp [g0,g1,g3,k1,e2,e3,hil]
   refine YSem.mono (hstep i h hil hj) ?_
   rintro v h' (⟨rfl,hj'⟩|⟨rfl,hd⟩)
   ·simp [g0,g1,g3,wrap64 (n:=(i:Int) - 1) ω ω]
    exact ⟨i,ω,ω,rfl,hj'⟩
   ·simp [g0,g1,g3,hd]
 ·exact ⟨Nat.le_refl _,μ,μ,μ,h0⟩
theorem A6x {n:Int} {l:List (Int×Txt)} {i:Nat} (hi:i < l.length):E9 n (l.drop i)=match E9 n (l.drop (i+1)) with|some s=>some s|none=>if l[i].1=n then some l[i].2 else none:=by
 rw [List.drop_eq_getElem_cons hi];rfl
def rdA (x:Txt×Int):AV:= .tup [S x.1,.int .i64 x.2]
theorem Aaz {p:Nat} {d:Dsk} {R:Nat→Prop} {h:Heap} (a:At (DskA p d) R h) (hwl:d.waits.length < 2 ^ 40) (hlp:h.lp=none) (n:Int) :
  CSem Tryz.prog 96 [.ptr p 0,.int .i64 n] h fun x h'=>x=rdA (d.read n)∧h'=h:=by
 refine CSem.Me (Q:=fun x=>x=rdA (d.read n)) (fun x hx=>by subst hx;exact ⟨2,_,rfl⟩) ?_
 obtain ⟨bs,ws,G,k,k2,k3,h4,h5,h6,hR⟩:=a.dsk
 refine CSem.body hm Tryz.func96 rfl κ κ (by simp [Tryz.ntmps96]) ?_
 have hp:=Heap.Ah k
 have hbl:=Heap.Ah k2
 simp [Tryz.f96]
 generalize hH:Heap.alloc _ _=H0
 have E0:Ext h H0:=by rw [←hH];exact (((Ext.refl h).alloc _).alloc _).alloc _
 have m0:H0.get h.next=some [.int .i64 n]:=by rw [←hH];exact Heap.Ag (Heap.Ag (Heap.A9 _ _))
 have m1:H0.get (h.next+1)=some [S []]:=by rw [←hH];exact Heap.Ag (Heap.A9 (h.alloc [.int .i64 n]) _)
 have m2:H0.get (h.next+2)=some [.int .i64 0]:=by rw [←hH];exact Heap.A9 ((h.alloc [.int .i64 n]).alloc [S []]) _
 have hnx:H0.next=h.next+3:=by rw [←hH];simp
 simp [m0]
 refine (Zm (E0.got k) n []).use ?_
 by_cases hc:d.check n []=0
 rotate_left
 ·have hl1:=Heap.Ah m1
  have hl2:=Heap.Ah m2
  simp [hc,m1,m2,Heap.Ad,hl1,hl2]
  refine ⟨by simp [rdA,Dsk.read,hc],(E0.put ω _).put ω _⟩
 have hwA:=k3.atom
 simp [hc,E0.got k,A8]
 refine (Aay ws hwA _).then ?_
 rintro _ _ ⟨rfl,rfl⟩
 have hci:¬n < 0∧n < d.secs.length:=by
  unfold Dsk.check at hc
  split at hc
  ·cases hc
  ·split at hc
   ·cases hc
   ·rename_i h7;omega
 simp
 have hl1:=Heap.Ah m1
 have hl2:=Heap.Ah m2
 refine M6 (gf:=155) (a:=[]) (b:=[.ptr H0.next 0]) (fun r hp=>rg r 0 = .ptr p 0∧rg r 3 = .ptr h.next 0∧rg r 4 = .ptr (h.next+1) 0∧rg r 5 = .ptr (h.next+2) 0∧hp=H0.alloc [ws]) (by simp [E0.lp,hlp]) μ μ ?_
 rintro id r hq hlq ⟨g0,g3,g4,g5,rfl⟩
 generalize hH1:(H0.alloc [ws]).Bp _=H1
 have E1:∀ b cs,H0.get b=some cs→H1.get b=some cs:=fun b cs hb=>by rw [←hH1];exact Heap.Ag hb
 have n1:H1.next=H0.next+1:=by rw [←hH1];rfl
 have b1:H1.get H0.next=some [ws]:=by rw [←hH1];exact Heap.A9 H0 [ws]
 have wA:Dx ws d.waits H1 G:=k3.keep fun b hb=>by
  rw [←hH1]
  show (H0.alloc [ws]).get b=_
  have:=k3.live hb
  rw [Heap.Aa,if_neg (by have:=E0.next;omega)]
  exact E0.get b this
 refine (A6w (id:=id) (b:=H0.next) (ws:=ws) (l:=d.waits) hwl (fun i h'=>h'=H1∧E9 n (d.waits.drop i)=none)
  (fun h'=> ∃ s,E9 n d.waits=some s∧h'=((H1.put (h.next+1) [S s]).put (h.next+2) [.int .i64 0]).Bp (H1.lp.map fun lp=> { lp with st:= .done .ret })) ?_ ?_ ⟨rfl,by simp [E9]⟩).mono ?_
 ·rintro i h' ⟨rfl,_⟩
  exact ⟨b1,G,wA⟩
 ·rintro i h' hi ⟨rfl,hno⟩
  have fl:=(congrArg Heap.lp hH1).symm
  rw [Jf] at fl
  refine YSem.of hm fl rfl ?_
  have hdr:=A6x (n:=n) hi
  rw [hno] at hdr
  simp [g0,g3,g4,g5,fl,E1 _ _ m0]
  refine (Ahq d.waits[i] n _).use ?_
  by_cases hwn:d.waits[i].1=n
  ·have hlw:E9 n d.waits=some d.waits[i].2:=by
    have key:∀ (l:List (Int×Txt)) (i:Nat) (s:Txt),E9 n (l.drop i)=some s→E9 n l=some s:=by
     intro l
     induction l with
     | nil=>intro i s hs;simpa using hs
     | cons w l ih =>
      intro i s hs
      cases i with
      | zero=>exact hs
      | succ i =>
       have:=ih i s (by simpa using hs)
       simp [E9,this]
    exact key _ i _ (by rw [hdr,if_pos hwn])
   have z1:=E1 _ _ m1
   have z2:=E1 _ _ m2
   have zl1:=Heap.Ah z1
   have zl2:=Heap.Ah z2
   simp [g0,g3,g4,g5,hwn,evA,Jc,K8,Zq,z1,z2,zl1,zl2,Heap.Ad]
   refine ⟨_,hlw,?_⟩
   generalize hX:(h'.put (h.next+1) [S d.waits[i].snd]).put (h.next+2) [AV.int IntKind.i64 0]=X
   rfl
  ·simp [g0,g3,g4,g5,hwn]
   exact ⟨Nk fl,by rw [hdr,if_neg hwn]⟩
 ·rintro x h' (⟨rfl,hno⟩|⟨s,hs,rfl⟩)
  ·have fl:=(congrArg Heap.lp hH1).symm
   rw [Jf] at fl
   refine A1x fl rfl ?_
   have ea:h'.Bp none=H0.alloc [ws]:=by rw [←hH1];exact Nk hlq
   rw [ea]
   change wpc _ _ _ _ (H0.alloc [ws])
   have q0:=Heap.Ag (cs:=[ws]) m0
   have q1:=Heap.Ag (cs:=[ws]) m1
   have q2:=Heap.Ag (cs:=[ws]) m2
   have qp:=Heap.Ag (cs:=[ws]) (E0.got k)
   have qb:=Heap.Ag (cs:=[ws]) (E0.got k2)
   have hnl:n.toNat < d.secs.length:=by omega
   have hn0:0≤n:=by omega
   have hl0:h.next < H0.next:=by omega
   have hat:d.at_ n=d.secs[n.toNat]:=by simp [Dsk.at_,show E9 n d.waits=none by simpa using hno,hnl]
   rw [Eb]
   refine Br 7 κ ?_
   simp [g0,g3,g4,g5,q0,q1,q2,qp,qb,A8,hn0,hci.2,hnl,hl0,hl1,Heap.Ad]
   have y1:(((H0.alloc [ws]).put (h.next+1) [S d.secs[n.toNat]]).put (h.next+2) [AV.int IntKind.i64 0]).get (h.next+1)=some [S d.secs[n.toNat]]:=by
    rw [Heap.Ad _ _ _ _ (by simp;omega),if_neg ω,Heap.Ad _ _ _ _ (by simp;omega),if_pos rfl]
   have y2:(((H0.alloc [ws]).put (h.next+1) [S d.secs[n.toNat]]).put (h.next+2) [AV.int IntKind.i64 0]).get (h.next+2)=some [AV.int IntKind.i64 0]:=by
    rw [Heap.Ad _ _ _ _ (by simp;omega),if_pos rfl]
   simp [y1,y2]
   refine ⟨by simp [rdA,Dsk.read,hc,hat],((E0.alloc _).put ω _).put ω _⟩
  ·have fl:=(congrArg Heap.lp hH1).symm
   rw [Jf] at fl
   have z1:=E1 _ _ m1
   have z2:=E1 _ _ m2
   have zl1:=Heap.Ah z1
   have zl2:=Heap.Ah z2
   refine A6v (by rw [Jf,fl];rfl) rfl ?_
   have hat:d.at_ n=s:=by simp [Dsk.at_,hs]
   have y1:((H1.put (h.next+1) [S s]).put (h.next+2) [AV.int IntKind.i64 0]).get (h.next+1)=some [S s]:=by
    rw [Heap.Ad _ _ _ _ (by simpa using zl2),if_neg ω,Heap.Ad _ _ _ _ zl1,if_pos rfl]
   have y2:((H1.put (h.next+1) [S s]).put (h.next+2) [AV.int IntKind.i64 0]).get (h.next+2)=some [AV.int IntKind.i64 0]:=by
    rw [Heap.Ad _ _ _ _ (by simpa using zl2),if_pos rfl]
   have en:(((H1.put (h.next+1) [S s]).put (h.next+2) [AV.int IntKind.i64 0]).Bp none)=(((H0.alloc [ws]).put (h.next+1) [S s]).put (h.next+2) [AV.int IntKind.i64 0]):=by
    rw [←hH1];simp only [A6y,Ye];exact Nk hlq
   simp [g4,g5,y1,y2]
   rw [en]
   refine ⟨by simp [rdA,Dsk.read,hc,hat],((E0.alloc _).put ω _).put ω _⟩
theorem J2 {P:Program} {t:TypeId} {h:Heap} (hz:(elT P t).bind (szT P)=some 1) {z:AV} (hzero:(elT P t).bind (B7 P)=some z):C8 P h t 0 []=some (.sl h.next 0 0 0 1,h.alloc []):=by
 obtain ⟨e,he,hz⟩:=Option.bind_eq_some_iff.1 hz
 rw [he] at hzero
 simp only [Option.bind_some] at hzero
 simp [C8,Bu he,hz,Fu,hzero,Mr]
theorem Rt {P:Program} {t xt:TypeId} (ha:apT P t xt=true) {h:Heap} {b n c:Nat} {cs xs:List AV} (hg:h.get b=some cs) (hx:cs.take n=xs) (hl:xs.length=n) (hat:xs.all AV.atom=true) (hn:0 < n) (hn2:n < 2 ^ 40) :
  Bm P (h.alloc []) t xt (.sl h.next 0 0 0 1) (.sl b 0 n c 1)=some (.sl (h.next+1) 0 n n 1,((h.alloc []).kill h.next).alloc xs):=by
 obtain ⟨e,bytes,z,he,hz,hap,hb,hb2,hza,hzt⟩:=Nh ha
 have hlc:n≤cs.length:=by rw [←hl,←hx,List.length_take];exact Nat.min_le_right _ _
 have hf:Ca (h.alloc []) 1 n (.sl b 0 n c 1)=some xs:=by simp [Ca,Heap.Ag hg,takeN,hlc,hx]
 have hsz:n * bytes≤2 ^ 47:=by
  have:n * bytes≤(2 ^ 40) * 64:=Nat.mul_le_mul ω hb2
  omega
 have h0:¬n=0:=by omega
 have h47:n≤2 ^ 47:=by omega
 have hg2:(h.alloc []).get h.next=some []:=Heap.A9 _ _
 simp only [Bm,Bu he,hz,hb,AV.len?,hap,hf,if_true]
 rw [if_pos ⟨hat,ω⟩]
 simp [hg2,h0,hsz,h47,takeN]
theorem A6z {b:Nat} {l:List Txt} {h:Heap} (k:h.get b=some (l.map S)) (hl:0 < l.length) (hl2:l.length < 2 ^ 40):CSem Tryz.prog 141 [.sl b 0 l.length l.length 1] h fun x h'=>x = .sl (h.next+1) 0 l.length l.length 1∧h'=((h.alloc []).kill h.next).alloc (l.map S):=by
 refine CSem.body hm Tryz.func141 rfl κ κ (by simp [Tryz.ntmps141]) ?_
 have hap:=Rt (P:=Tryz.prog) (t:=51) (xt:=51) κ (c:=l.length) k (n:=l.length) (xs:=l.map S) (by rw [List.take_of_length_le μ]) μ μ hl hl2
 simp [Tryz.f141,J2 (P:=Tryz.prog) (t:=51) μ (z:=S []) μ,hap]
theorem A70 {ws:AV} {l:List (Int×Txt)} {h:Heap} {G:Nat→Prop} (w:Dx ws l h G) (hl2:l.length < 2 ^ 40):CSem Tryz.prog 142 [ws] h fun x h'=>((x = .nilSl∧l=[])∨∃ wb,x = .sl wb 0 l.length l.length 1∧h'.get wb=some (l.map evA)∧h.next≤wb)∧Ext h h':=by
 refine CSem.body hm Tryz.func142 rfl κ κ (by simp [Tryz.ntmps142]) ?_
 rcases w with ⟨rfl,rfl,_⟩|⟨wb,c,cells,rfl,hg,hcl,hle,htk,hG⟩
 ·simp [Tryz.f142]
  exact Ext.refl h
 ·rcases Nat.eq_zero_or_pos l.length with h0|h0
  ·have hl0:l=[]:=List.eq_nil_of_length_eq_zero h0
   subst hl0
   have hat:apT Tryz.prog 106 106=true:=by kernel_rfl
   obtain ⟨e,bytes,z,he,hz,hap,hb,hb2,hza,hzt⟩:=Nh hat
   have hg2:(h.alloc []).get h.next=some []:=Heap.A9 _ _
   have hf:Ca (h.alloc []) 1 0 (.sl wb 0 0 c 1)=some []:=by simp [Ca,Heap.Ag hg,takeN]
   have happ:Bm Tryz.prog (h.alloc []) 106 106 (.sl h.next 0 0 0 1) (.sl wb 0 0 c 1)=some (.sl h.next 0 0 0 1,(h.alloc []).put h.next []):=by
    simp [Bm,Bu he,hz,hb,AV.len?,hap,hf,hg2,putN]
   simp [Tryz.f142,J2 (P:=Tryz.prog) (t:=106) μ (z:= .nilIf) μ,happ]
   exact ⟨Heap.Ak hg2,((Ext.refl h).alloc _).put (Nat.le_refl _) _⟩
  ·have hap:=Rt (P:=Tryz.prog) (t:=106) (xt:=106) κ (c:=c) hg (n:=l.length) (xs:=l.map evA) htk μ μ h0 hl2
   simp [Tryz.f142,J2 (P:=Tryz.prog) (t:=106) μ (z:= .nilIf) μ,hap]
   refine ⟨Heap.A9 ((h.alloc []).kill h.next) _,?_⟩
   exact (((Ext.refl h).alloc _).kill (Nat.le_refl _)).alloc _
theorem At.ext {A:Asn} (L:Loc A) {R:Nat→Prop} {h h':Heap} (a:At A R h) (E:Ext h h'):At A R h':=by
 obtain ⟨F,h1,h2⟩:=a
 exact ⟨F,L.keep _ _ _ h1 (fun b hb=>E.get b (L.live _ _ _ h1 hb)),fun b hb=>⟨(h2 b hb).1,Nat.lt_of_lt_of_le (h2 b hb).2 E.next⟩⟩
def CpV (h0:Heap) (p bs:Nat) (ws:AV) (d:Dsk):Nat→AV→Heap→Prop
 | 2,v,_=>v = .ptr p 0
 | 3,v,_=>v = .sl bs 0 d.secs.length d.secs.length 1
 | 4,v,H=> ∃ q,v = .sl q 0 d.secs.length d.secs.length 1∧h0.next≤q∧H.get q=some (d.secs.map S)
 | 7,v,_=>v = .ptr p 1
 | 8,v,_=>v = .int .i64 d.size
 | 11,v,_=>v = .ptr p 2
 | 12,v,_=>v=ws
 | 13,v,H=>(v = .nilSl∧d.waits=[])∨∃ wb,v = .sl wb 0 d.waits.length d.waits.length 1∧H.get wb=some (d.waits.map evA)∧h0.next≤wb
 | 16,v,_=>v = .ptr p 3
 | 17,v,_=>v = .bool d.gone
 | 18,v,H=> ∃ q x,v = .agg [.sl q 0 d.secs.length d.secs.length 1,.int .i64 d.size,x,.bool d.gone]∧h0.next≤q∧H.get q=some (d.secs.map S)∧((x = .nilSl∧d.waits=[])∨∃ wb,x = .sl wb 0 d.waits.length d.waits.length 1∧H.get wb=some (d.waits.map evA)∧h0.next≤wb)
 | 19,v,H=> ∃ r,v = .ptr r 0∧At (DskA r d) (fun b=>b < h0.next) H
 | 20,v,H=> ∃ r,v = .ptr r 0∧At (DskA r d) (fun b=>b < h0.next) H
 | _,v,_=>v = .ptr p 0
theorem CpV.mono {h0:Heap} {p bs:Nat} {ws:AV} {d:Dsk} (j:Nat) (v:AV) (h h':Heap) (E:Ext h h') (hv:CpV h0 p bs ws d j v h):CpV h0 p bs ws d j v h':=by
 unfold CpV at hv ⊢
 split at hv
 all_goals first
  | exact hv
  | (obtain ⟨q,h1,h2,h3⟩:=hv;exact ⟨q,h1,h2,E.got h3⟩)
  | (rcases hv with hv|⟨wb,h1,h2,h3⟩
     ·exact .inl hv
     ·exact .inr ⟨wb,h1,E.got h2,h3⟩)
  | (obtain ⟨q,x,h1,h2,h3,h4⟩:=hv
     refine ⟨q,x,h1,h2,E.got h3,?_⟩
     rcases h4 with h4|⟨wb,h4,h5,h6⟩
     ·exact .inl h4
     ·exact .inr ⟨wb,h4,E.got h5,h6⟩)
  | (obtain ⟨r,h1,h2⟩:=hv
     exact ⟨r,h1,h2.ext (DskA.loc r d) E⟩)
theorem Ab0 {p:Nat} {d:Dsk} {R:Nat→Prop} {h:Heap} (a:At (DskA p d) R h) (hwl:d.waits.length < 2 ^ 40) (hs0:0 < d.secs.length) (hs1:d.secs.length < 2 ^ 40) :
  CSem Tryz.prog 112 [.ptr p 0] h fun x h'=> ∃ q,x = .ptr q 0∧At (DskA q d) (fun b=>b < h.next) h'∧Ext h h':=by
 obtain ⟨bs,ws,G,k,k2,k3,h4,h5,h6,hR⟩:=a.dsk
 refine CSem.body hm Tryz.func112 rfl κ κ (by simp [Tryz.ntmps112]) ?_
 simp [Tryz.f112]
 refine A90 (Ext h) (CpV h p bs ws d) [(0,.ptr p 0)] κ κ CpV.mono (Ext.refl h) μ (fun h1 h2 e1 e2=>e2.trans e1) ?_ ?_
 ·intro r H hE hB
  have hr0:rg r 0 = .ptr p 0:=hB (0,.ptr p 0) μ
  have kH:=hE.got k
  have kH2:=hE.got k2
  have wH:Dx ws d.waits H G:=k3.keep fun b hb=>hE.get b (k3.live hb)
  refine ⟨?_,?_,?_,?_,?_,?_,?_,?_,?_,?_,?_,?_,?_,?_,?_,?_,?_,?_,?_,?_,?_,trivial⟩
  all_goals (intro hd;simp [Dep,VO,CpV,Region.binds] at hd)
  all_goals (try simp [hd,hr0,kH,CpV,Ext.refl,A8])
  ·refine (A6z kH2 hs0 hs1).then ?_
   rintro x h' ⟨rfl,rfl⟩
   refine ⟨_,rfl,⟨_,rfl,by have:=hE.next;omega,?_⟩,(((Ext.refl H).alloc _).kill (Nat.le_refl _)).alloc _⟩
   exact Heap.A9 ((H.alloc []).kill H.next) _
  ·refine (A70 wH hwl).then ?_
   rintro x h' ⟨hx,hE'⟩
   refine ⟨_,rfl,?_,hE'⟩
   rcases hx with hx|⟨wb,h1,h2,h3⟩
   ·exact .inl hx
   ·exact .inr ⟨wb,h1,h2,Nat.le_trans hE.next h3⟩
  ·obtain ⟨⟨q,e9,g1,g2⟩,_,hx,_⟩:=hd
   rw [e9]
   have hb1:Ct Tryz.prog 108 [(0,.sl q 0 d.secs.length d.secs.length 1),(1,.int .i64 d.size),(2,.nilSl),(3,.bool d.gone)]=some (.agg [.sl q 0 d.secs.length d.secs.length 1,.int .i64 d.size,.nilSl,.bool d.gone]):=by kernel_rfl
   have hb2:∀ wb,Ct Tryz.prog 108 [(0,.sl q 0 d.secs.length d.secs.length 1),(1,.int .i64 d.size),(2,.sl wb 0 d.waits.length d.waits.length 1),(3,.bool d.gone)]=some (.agg [.sl q 0 d.secs.length d.secs.length 1,.int .i64 d.size,.sl wb 0 d.waits.length d.waits.length 1,.bool d.gone]):=fun wb=>by kernel_rfl
   rcases hx with ⟨hx,hw⟩|⟨wb,hx,k5,k6⟩
   ·simp only [hx,hb1,Cy]
    exact ⟨_,rfl,⟨_,_,rfl,g1,g2,.inl ⟨rfl,hw⟩⟩,Ext.refl H⟩
   ·simp only [hx,hb2,Cy]
    exact ⟨_,rfl,⟨_,_,rfl,g1,g2,.inr ⟨_,rfl,k5,k6⟩⟩,Ext.refl H⟩
  ·obtain ⟨q,x,e1,g1,g2,hx⟩:=hd
   rw [e1]
   have hq:=Heap.Ah g2
   refine ⟨?_,_,rfl,⟨_,rfl,?_⟩,(Ext.refl H).alloc _⟩
   ·rcases hx with ⟨rfl,_⟩|⟨wb,rfl,_⟩<;>simp [AV.cells]
   ·rcases hx with ⟨rfl,hw⟩|⟨wb,rfl,k5,k6⟩
    ·refine At.A3x (bs:=q) (ws:= .nilSl) (G:=fun _=>False) (Heap.A9 _ _) (Heap.Ag g2) (.inl ⟨rfl,hw,fun _ h=>h⟩) ω (fun h=>h) (fun h=>h) (fun b hb=>⟨?_,?_,fun h=>h,?_⟩)
     ·have:=hE.next;omega
     ·omega
     ·have:=hE.next;simp;omega
    ·have hne:q≠wb:=by
      intro e
      rw [←e,g2] at k5
      have:=Option.some.inj k5
      match hsx:d.secs with
      | []=>rw [hsx] at hs0;simp at hs0
      | t :: l =>
       rw [hsx] at this
       match hwx:d.waits with
       | []=>rw [hwx] at this;simp at this
       | w :: l' =>
        rw [hwx] at this
        exact absurd (List.cons.inj this).1 (fun e=>by unfold evA S at e;exact AV.noConfusion e)
     have hwb:=Heap.Ah k5
     refine At.A3x (bs:=q) (ws:= .sl wb 0 d.waits.length d.waits.length 1) (G:=fun b=>b=wb) (Heap.A9 _ _) (Heap.Ag g2) (.inr ⟨wb,_,_,rfl,Heap.Ag k5,μ,Nat.le_refl _,by rw [List.take_of_length_le μ],fun _=>Iff.rfl⟩) ω ω hne (fun b hb=>⟨?_,?_,?_,?_⟩)
     ·have:=hE.next;omega
     ·omega
     ·omega
     ·have:=hE.next;simp;omega
  ·obtain ⟨⟨q,e1,g1⟩,_⟩:=hd
   exact ⟨_,rfl,q,e1,g1⟩
 ·intro r H hI hE hr hA
  obtain ⟨_,_,_,_,_,_,_,_,_,_,_,_,_,_,_,_,_,_,_,_,hz,_⟩:=hA
  simp [VO,CpV] at hz
  obtain ⟨q,h1,h2⟩:=hz
  simp [h1]
  exact ⟨h2,hI⟩
def ArrI (p q n:Nat) (cells:List AV) (ps:List Nat) (a:Arr):Asn:=fun h F=> ∃ G,h.get p=some [.sl q 0 a.disks.length n 1,.int .i64 a.left,.bool a.down]∧h.get q=some cells∧cells.length=n∧ps.length≤n∧cells.take ps.length=ps.map (fun p=>AV.ptr p 0) ∧
 Dt ps a.disks h G∧p≠q∧¬G p∧¬G q∧∀ b,F b↔b=p∨b=q∨G b
theorem At.arrI {p:Nat} {a:Arr} {R:Nat→Prop} {h:Heap} (A:At (ArrA p a) R h) (h0:0 < a.disks.length):∃ q n cells ps,At (ArrI p q n cells ps a) R h:=by
 obtain ⟨F,⟨x,ps,G,h1,h2,h3,h4⟩,hR⟩:=A
 have hl:ps.length=a.disks.length:=h2.1
 rcases h4 with ⟨_,h5,_⟩|⟨q,n,cells,h5,h6,h7,h8,h9,h10,h11,h12⟩
 ·rw [h5] at hl;simp at hl;omega
 ·rw [h5,hl] at h1
  exact ⟨q,n,cells,ps,F,⟨G,h1,h6,h7,h8,h9,h2,Ne.symm h10,h3,h11,h12⟩,hR⟩
theorem At.Jd {p q n:Nat} {cells:List AV} {ps:List Nat} {a:Arr} {R:Nat→Prop} {h:Heap} (A:At (ArrI p q n cells ps a) R h) :
  h.get p=some [.sl q 0 a.disks.length n 1,.int .i64 a.left,.bool a.down]∧h.get q=some cells∧cells.length=n∧a.disks.length≤n∧ps.length=a.disks.length∧p≠q∧∀ b,R b→b≠p∧b≠q∧b < h.next:=by
 obtain ⟨F,⟨G,h1,h6,h7,h8,h9,h2,h10,h3,h11,h12⟩,hR⟩:=A
 exact ⟨h1,h6,h7,h2.1 ▸ h8,h2.1,h10,fun b hb=>⟨fun e=>(hR b hb).1 ((h12 b).2 (.inl e)),fun e=>(hR b hb).1 ((h12 b).2 (.inr (.inl e))),(hR b hb).2⟩⟩
theorem At.focus {p q n:Nat} {cells:List AV} {ps:List Nat} {a:Arr} {R:Nat→Prop} {h:Heap} (A:At (ArrI p q n cells ps a) R h) {i:Nat} {d:Dsk} (hd:a.disks[i]? = some d) :
  ∃ (pd:Nat) (R':Nat→Prop),cells[i]? = some (.ptr pd 0)∧At (DskA pd d) R' h∧R' p∧R' q∧(∀ b,R b→R' b) ∧
   ∀ (d':Dsk) (h':Heap) (l:Int) (w:Bool),At (DskA pd d') R' h'→h'.get p=some [.sl q 0 a.disks.length n 1,.int .i64 l,.bool w]→(∀ b,R' b→b≠p→h'.get b=h.get b)→h.next≤h'.next→At (ArrI p q n cells ps ⟨a.disks.set i d',l,w⟩) R h':=by
 obtain ⟨F,⟨G,h1,h6,h7,h8,h9,h2,h10,h3,h11,h12⟩,hR⟩:=A
 have hl:ps.length=a.disks.length:=h2.1
 have hG:=(Dt.loc ps a.disks).live h G
 obtain ⟨pd,Fi,Fo,hp,hA,dis,hF,back⟩:=h2.focus hd
 have hil:=(List.getElem?_eq_some_iff.1 hd).1
 refine ⟨pd,fun b=>R b∨b=p∨b=q∨Fo b,?_,⟨Fi,hA,?_⟩,.inr (.inl rfl),.inr (.inr (.inl rfl)),fun b hb=> .inl hb,?_⟩
 ·have:(cells.take ps.length)[i]? = cells[i]? := List.getElem?_take_of_lt ω
  rw [←this,h9,List.getElem?_map,hp];rfl
 ·rintro b (hb|rfl|rfl|hb)
  ·exact ⟨fun hf=>(hR b hb).1 ((h12 b).2 (.inr (.inr ((hF b).2 (.inl hf))))),(hR b hb).2⟩
  ·exact ⟨fun hf=>h3 ((hF b).2 (.inl hf)),Heap.Ah h1⟩
  ·exact ⟨fun hf=>h11 ((hF b).2 (.inl hf)),Heap.Ah h6⟩
  ·exact ⟨fun hf=>dis b hf hb,hG b h2 ((hF b).2 (.inr hb))⟩
 ·rintro d' h' l w ⟨Fi',hA',hR'⟩ k1 k2 k3
  have hpF:¬Fo p:=fun hf=>h3 ((hF p).2 (.inr hf))
  have hqF:¬Fo q:=fun hf=>h11 ((hF q).2 (.inr hf))
  refine ⟨fun b=>b=p∨b=q∨(Fi' b∨Fo b),⟨fun b=>Fi' b∨Fo b,?_,?_,h7,h8,h9,?_,h10,?_,?_,fun _=>Iff.rfl⟩,fun b hb=>⟨?_,Nat.lt_of_lt_of_le (hR b hb).2 k3⟩⟩
  ·simpa using k1
  ·exact (k2 q (.inr (.inr (.inl rfl))) (Ne.symm h10)).trans h6
  ·exact back d' h' Fi' hA' (fun b hb=>(hR' b (.inr (.inr (.inr hb)))).1) (fun b hb=>k2 b (.inr (.inr (.inr hb))) (fun e=>hpF (e ▸ hb)))
  ·rintro (hf|hf)
   ·exact (hR' p (.inr (.inl rfl))).1 hf
   ·exact hpF hf
  ·rintro (hf|hf)
   ·exact (hR' q (.inr (.inr (.inl rfl)))).1 hf
   ·exact hqF hf
  ·rintro (e|e|hf|hf)
   ·exact (hR b hb).1 ((h12 b).2 (.inl e))
   ·exact (hR b hb).1 ((h12 b).2 (.inr (.inl e)))
   ·exact (hR' b (.inl hb)).1 hf
   ·exact (hR b hb).1 ((h12 b).2 (.inr (.inr ((hF b).2 (.inr hf)))))
theorem Qj {p:Nat} {w:Bool} {h:Heap} {x0 x1:AV} (k:h.get p=some [x0,x1,.bool w]):CSem Tryz.prog 76 [.ptr p 0] h fun x h'=>x = .int .i64 (if w then 9 else 0)∧h'=h:=by
 refine CSem.body hm Tryz.func76 rfl κ κ (by simp [Tryz.ntmps76]) ?_
 cases w<;>simp [Tryz.f76,k,A8]
theorem Th {p q n N:Nat} {h:Heap} {x1 x2:AV} {cells:List AV} (k:h.get p=some [.sl q 0 N n 1,x1,x2]) (kq:h.get q=some cells) {i:Int} {c:AV} (hi:0≤i) (hN:i < N) (hc:cells[i.toNat]? = some c) (ha:c.atom=true) :
  CSem Tryz.prog 94 [.ptr p 0,.int .i64 i] h fun x h'=>x = .tup [c,.int .i64 0]∧h'=h:=by
 refine CSem.body hm Tryz.func94 rfl κ κ (by simp [Tryz.ntmps94]) ?_
 have h1:¬i < 0:=by omega
 have h2:¬(N:Int)≤i:=by omega
 have hcl:=(List.getElem?_eq_some_iff.1 hc).1
 simp [Tryz.f94,k,A8,h1,h2,hi,hN,kq,hc]
theorem X2 {p q n N:Nat} {h:Heap} {x1 x2:AV} (k:h.get p=some [.sl q 0 N n 1,x1,x2]) {i:Int} (hi:¬(0≤i∧i < N)) :
  CSem Tryz.prog 94 [.ptr p 0,.int .i64 i] h fun x h'=>x = .tup [.nilPtr,.int .i64 1]∧h'=h:=by
 refine CSem.body hm Tryz.func94 rfl κ κ (by simp [Tryz.ntmps94]) ?_
 by_cases h1:i < 0
 ·simp [Tryz.f94,k,A8,h1]
 ·have h2:(N:Int)≤i:=by omega
  simp [Tryz.f94,k,A8,h1,h2]
theorem Arr.Ka {a:Arr} {i:Int} {d:Dsk} (h:a.on? i=some d):0≤i∧i < a.disks.length∧a.disks[i.toNat]? = some d:=by
 unfold Arr.on? at h
 split at h
 ·exact ⟨by assumption,by have:=(List.getElem?_eq_some_iff.1 h).1;omega,h⟩
 ·cases h
theorem Arr.X3 {a:Arr} {i:Int} (h:a.on? i=none):¬(0≤i∧i < a.disks.length):=by
 unfold Arr.on? at h
 split at h
 ·have:=List.getElem?_eq_none_iff.1 h;omega
 ·omega
section
variable {p q n:Nat} {cells:List AV} {ps:List Nat} {a:Arr} {R:Nat→Prop} {h:Heap}
theorem Aas (A:At (ArrI p q n cells ps a) R h) (i:Int):CSem Tryz.prog 21 [.ptr p 0,.int .i64 i] h fun x h'=>x = .int .i64 (if i < 0 then 1 else 0)∧At (ArrI p q n cells ps (a.fuse i)) R h'∧Keep R h h':=by
 refine CSem.body hm Tryz.func21 rfl κ κ (by simp [Tryz.ntmps21]) ?_
 by_cases hi:i < 0
 ·simp [Tryz.f21,hi,Arr.fuse]
  exact ⟨A,Keep.refl R h⟩
 ·obtain ⟨F,⟨G,h1,h6,h7,h8,h9,h2,h10,h3,h11,h12⟩,hR⟩:=A
  have hp:=Heap.Ah h1
  simp [Tryz.f21,hi,Arr.fuse,h1,A8]
  refine ⟨⟨F,⟨G,?_,?_,h7,h8,h9,(Dt.loc ps a.disks).keep _ _ _ h2 (fun b hb=> ?_),h10,h3,h11,h12⟩,fun b hb=>hR b hb⟩,(Keep.refl R h).put _ (fun hr=>(hR p hr).1 ((h12 p).2 (.inl rfl)))⟩
  ·simp [Heap.Ad,hp]
  ·rw [Heap.Ad _ _ _ _ hp,if_neg (Ne.symm h10)];exact h6
  ·rw [Heap.Ad _ _ _ _ hp,if_neg (fun e:b=p=>h3 (e ▸ hb))]
theorem Hj (A:At (ArrI p q n cells ps a) R h):CSem Tryz.prog 22 [.ptr p 0] h fun x h'=>x = .bool a.down∧h'=h:=by
 refine CSem.body hm Tryz.func22 rfl κ κ (by simp [Tryz.ntmps22]) ?_
 simp [Tryz.f22,A.Jd.1,A8]
theorem Fb (A:At (ArrI p q n cells ps a) R h):CSem Tryz.prog 43 [.ptr p 0] h fun x h'=>x = .int .i64 (a.disks.length:Int)∧h'=h:=by
 refine CSem.body hm Tryz.func43 rfl κ κ (by simp [Tryz.ntmps43]) ?_
 simp [Tryz.f43,A.Jd.1,A8]
theorem A71 (A:At (ArrI p q n cells ps a) R h) (i:Int):CSem Tryz.prog 66 [.ptr p 0,.int .i64 i] h fun x h'=>x = .bool (a.alive i)∧h'=h:=by
 refine CSem.body hm Tryz.func66 rfl κ κ (by simp [Tryz.ntmps66]) ?_
 obtain ⟨k,kq,hcl,hN,hps,hpq,hR⟩:=A.Jd
 simp [Tryz.f66]
 match ho:a.on? i with
 | none =>
  refine (X2 k (Arr.X3 ho)).use ?_
  simp [Arr.alive,ho]
 | some d =>
  obtain ⟨h0,h1,h2⟩:=Arr.Ka ho
  obtain ⟨pd,R',hc,hA,_⟩:=A.focus h2
  refine (Th k kq h0 h1 hc rfl).use ?_
  simp
  refine (A6s hA).use ?_
  simp [Arr.alive,ho]
theorem Zr (A:At (ArrI p q n cells ps a) R h) (hW:∀ d∈a.disks,d.waits.length < 2 ^ 40) (hlp:h.lp=none) (i j:Int) :
  CSem Tryz.prog 68 [.ptr p 0,.int .i64 i,.int .i64 j] h fun x h'=>x=rdA (a.read i j)∧h'=h:=by
 refine CSem.body hm Tryz.func68 rfl κ κ (by simp [Tryz.ntmps68]) ?_
 obtain ⟨k,kq,hcl,hN,hps,hpq,hR⟩:=A.Jd
 simp [Tryz.f68]
 refine (Qj k).use ?_
 cases hd:a.down
 rotate_left
 ·simp [Arr.read,hd,rdA]
 simp
 match ho:a.on? i with
 | none =>
  refine (X2 k (Arr.X3 ho)).use ?_
  simp [Arr.read,hd,ho,rdA]
 | some d =>
  obtain ⟨h0,h1,h2⟩:=Arr.Ka ho
  obtain ⟨pd,R',hc,hA,_⟩:=A.focus h2
  refine (Th k kq h0 h1 hc rfl).use ?_
  simp
  refine (Aaz hA (hW d (List.mem_of_getElem? h2)) hlp j).use ?_
  simp [Arr.read,hd,ho,rdA]
end
structure Ms (k:Nat) (d:Dsk):Prop where
 w:DskW d
 one:0 < d.secs.length
 few:d.waits.length≤k
structure ArrB (k:Nat) (a:Arr):Prop where
 disks:∀ d∈a.disks,Ms k d
 one:0 < a.disks.length
 few:a.disks.length≤255
 left:a.left < 2 ^ 63
section
variable {p q n:Nat} {cells:List AV} {ps:List Nat} {a:Arr} {R:Nat→Prop} {h:Heap}
theorem A72 {k:Nat} (A:At (ArrI p q n cells ps a) R h) (hB:ArrB k a) (hk:k < 2 ^ 30) (i j:Int) (s:Txt) :
  CSem Tryz.prog 82 [.ptr p 0,.int .i64 i,.int .i64 j,S s] h fun x h'=>x = .int .i64 (a.Hd i j s)∧At (ArrI p q n cells ps (a.write i j s)) R h'∧Keep R h h':=by
 refine CSem.body hm Tryz.func82 rfl κ κ (by simp [Tryz.ntmps82]) ?_
 obtain ⟨k1,kq,hcl,hN,hps,hpq,hR⟩:=A.Jd
 have hp:=Heap.Ah k1
 simp [Tryz.f82]
 refine (Qj k1).use ?_
 cases hd:a.down
 rotate_left
 ·simp [Arr.write,Arr.Hd,hd]
  exact ⟨A,Keep.refl R h⟩
 simp
 match ho:a.on? i with
 | none =>
  refine (X2 k1 (Arr.X3 ho)).use ?_
  simp [Arr.write,Arr.Hd,hd,ho]
  exact ⟨A,Keep.refl R h⟩
 | some d =>
  obtain ⟨h0,h1,h2⟩:=Arr.Ka ho
  have hdB:=hB.disks d (List.mem_of_getElem? h2)
  have hwl:d.waits.length < 2 ^ 40:=by have:=hdB.few;omega
  obtain ⟨pd,R',hc,hA,hRp,hRq,hRR,back⟩:=A.focus h2
  refine (Th k1 kq h0 h1 hc rfl).use ?_
  simp [k1,A8]
  by_cases hl:a.left=0
  ·simp [hl]
   refine (Ab0 hA hwl hdB.one (by have:=hdB.w.few;omega)).then ?_
   rintro _ h1 ⟨q2,rfl,hA2,E⟩
   simp
   refine (X0 hA2 ω j s).then ?_
   rintro _ h2' ⟨rfl,_,K2⟩
   have hgt:∀ b,b < h.next→h2'.get b=h.get b:=fun b hb=>(K2.get b hb).trans (E.get b hb)
   have AF:At (ArrI p q n cells ps a) R h2':=by
    obtain ⟨F,h3,h4⟩:=A
    have hloc:∀ b,F b→b < h.next:=by
     obtain ⟨G,g1,g6,g7,g8,g9,g2,g10,g3,g11,g12⟩:=h3
     intro b hb
     rcases (g12 b).1 hb with rfl|rfl|hb
     ·exact Heap.Ah g1
     ·exact Heap.Ah g6
     ·exact (Dt.loc ps a.disks).live _ _ _ g2 hb
    obtain ⟨G,g1,g6,g7,g8,g9,g2,g10,g3,g11,g12⟩:=h3
    refine ⟨F,⟨G,(hgt p hp).trans g1,(hgt q (Heap.Ah kq)).trans g6,g7,g8,g9,(Dt.loc ps a.disks).keep _ _ _ g2 (fun b hb=>hgt b (hloc b ((g12 b).2 (.inr (.inr hb))))),g10,g3,g11,g12⟩,fun b hb=>⟨(h4 b hb).1,Nat.lt_of_lt_of_le (h4 b hb).2 (Nat.le_trans E.next K2.next)⟩⟩
   have KR:Keep R h h2':=⟨Nat.le_trans E.next K2.next,K2.lp.trans E.lp,K2.gh.trans E.gh,fun b hb=>hgt b (hR b hb).2.2⟩
   by_cases hce:d.check j s=0
   rotate_left
   ·simp [hce,Arr.write,Arr.Hd,hd,ho]
    exact ⟨AF,KR⟩
   have kp2:=(hgt p hp).trans k1
   simp [hce,kp2,A8,Arr.write,Arr.Hd,hd,ho,hl]
   obtain ⟨F,⟨G,g1,g6,g7,g8,g9,g2,g10,g3,g11,g12⟩,h4⟩:=AF
   have hp2:=Heap.Ah g1
   refine ⟨⟨F,⟨G,?_,?_,g7,g8,g9,(Dt.loc ps a.disks).keep _ _ _ g2 (fun b hb=> ?_),g10,g3,g11,g12⟩,h4⟩,KR.put _ (fun hr=>(hR p hr).1 rfl)⟩
   ·simp [Heap.Ad,hp2,hl]
   ·rw [Heap.Ad _ _ _ _ hp2,if_neg (Ne.symm g10)];exact g6
   ·rw [Heap.Ad _ _ _ _ hp2,if_neg (fun e:b=p=>g3 (e ▸ hb))]
  ·simp [hl]
   refine (X0 hA hwl j s).then ?_
   rintro _ h2' ⟨rfl,hA2,K2⟩
   have kp2:=K2.got hRp k1
   have KR:Keep R h h2':=K2.mono hRR
   have hp2:=Heap.Ah kp2
   by_cases hce:d.check j s=0
   rotate_left
   ·simp [hce,Arr.write,Arr.Hd,hd,ho]
    have:=back (d.write j s) h2' a.left a.down hA2 kp2 (fun b hb _=>K2.get b hb) K2.next
    have e1:d.write j s=d:=by simp [Dsk.write,hce]
    rw [e1] at this
    have e2:a.disks.set i.toNat d=a.disks:=by
     obtain ⟨h6,h7⟩:=List.getElem?_eq_some_iff.1 h2
     rw [←h7];exact List.set_getElem_self h6
    rw [e2] at this
    exact ⟨this,KR⟩
   simp [hce,kp2,A8,Arr.write,Arr.Hd,hd,ho,hl,Arr.set]
   by_cases hpos:0 < a.left
   ·have hlf:=hB.left
    simp [hpos,A8,kp2,wrap64 (show (-9223372036854775808:Int)≤a.left - 1 by omega) (show a.left - 1 < 9223372036854775808 by omega)]
    refine ⟨?_,KR.put _ (fun hr=>(hR p hr).1 rfl)⟩
    refine back _ _ _ _ (hA2.put (DskA.loc pd _) _ hRp) ?_ (fun b hb hne=> ?_) (by simpa using K2.next)
    ·simp [Heap.Ad,hp2,hd]
    ·rw [Heap.Ad _ _ _ _ hp2,if_neg hne];exact K2.get b hb
   ·simp [hpos]
    exact ⟨back _ _ _ _ hA2 (by rw [kp2];simp [hd]) (fun b hb _=>K2.get b hb) K2.next,KR⟩
end
theorem ArrI.loc (p q n:Nat) (cells:List AV) (ps:List Nat) (a:Arr):Loc (ArrI p q n cells ps a):=by
 constructor
 ·rintro h h' F ⟨G,h1,h6,h7,h8,h9,h2,h10,h3,h11,h12⟩ hk
  exact ⟨G,(hk p ((h12 p).2 (.inl rfl))).trans h1,(hk q ((h12 q).2 (.inr (.inl rfl)))).trans h6,h7,h8,h9,(Dt.loc ps _).keep _ _ _ h2 (fun b hb=>hk b ((h12 b).2 (.inr (.inr hb)))),h10,h3,h11,h12⟩
 ·rintro h F b ⟨G,h1,h6,h7,h8,h9,h2,h10,h3,h11,h12⟩ hb
  rcases (h12 b).1 hb with rfl|rfl|hb
  ·exact Heap.Ah h1
  ·exact Heap.Ah h6
  ·exact (Dt.loc ps _).live _ _ _ h2 hb
section
variable {p q n:Nat} {cells:List AV} {ps:List Nat} {a:Arr} {R:Nat→Prop} {h:Heap}
end
section
variable {p q n:Nat} {cells:List AV} {ps:List Nat} {a:Arr} {R:Nat→Prop} {h:Heap}
theorem Qk {k:Nat} (A:At (ArrI p q n cells ps a) R h) (hB:ArrB k a) (hk:k < 2 ^ 30) :
  CSem Tryz.prog 50 [.ptr p 0] h fun x h'=>x = .int .i64 (if a.down then 9 else 0)∧At (ArrI p q n cells ps a.flush) R h'∧Keep R h h':=by
 refine CSem.body hm Tryz.func50 rfl κ κ (by simp [Tryz.ntmps50]) ?_
 obtain ⟨k1,kq,hcl,hN,hps,hpq,hR⟩:=A.Jd
 simp [Tryz.f50]
 refine (Qj k1).use ?_
 cases hd:a.down
 rotate_left
 ·simp [Arr.flush,hd]
  exact ⟨A,Keep.refl R h⟩
 simp [k1,A8]
 have hN2:a.disks.length≤255:=hB.few
 refine Ar (fun (i:Nat) r hp=>i≤a.disks.length∧rg r 14 = .sl q 0 a.disks.length n 1∧rg r 15 = .int .i64 a.disks.length∧rg r 16 = .int .i64 i ∧
  ∃ ds,ds.length=i∧a.disks.map Dsk.flush=ds ++ (a.disks.drop i).map Dsk.flush∧At (ArrI p q n cells ps ⟨ds ++ a.disks.drop i,a.left,a.down⟩) R hp∧Keep R h hp) (a.disks.length - ·) ?_ 0 ?_
 ·rintro i r hp ⟨hi,g14,g15,g16,ds,e1,e2,A2,K2⟩
  rcases Nat.lt_or_eq_of_le hi with hlt|heq
  ·have hlt':(i:Int) < a.disks.length:=by omega
   have hnext:IntKind.i64.wrap ((i:Int)+1)=(i:Int)+1:=wrap64 ω ω
   have hdr:a.disks.drop i=a.disks[i] :: a.disks.drop (i+1):=List.drop_eq_getElem_cons hlt
   have hgi:(ds ++ a.disks.drop i)[i]? = some a.disks[i]:=by rw [List.getElem?_append_right ω,e1,hdr];simp
   obtain ⟨pd,R',hc,hA,hRp,hRq,hRR,back⟩:=A2.focus hgi
   have hdB:=hB.disks a.disks[i] (List.getElem_mem hlt)
   have A2g:=A2.Jd
   have hci:=(List.getElem?_eq_some_iff.1 hc).1
   simp [g14,g15,g16,hlt',A2g.2.1,hc]
   refine (A6u hA hdB.w (by have:=hdB.few;omega)).then ?_
   rintro _ h' ⟨rfl,hA3,K3⟩
   simp [g14,g15,g16,hnext]
   refine ⟨i+1,ω,ω,by push_cast;rfl,ds ++ [a.disks[i].flush],by simp [e1],?_,?_,K2.trans (K3.mono hRR)⟩
   ·have e3:=e2
    rw [hdr,List.map_cons] at e3
    exact e3.trans (by simp [List.map_drop])
   ·have:=back _ _ _ _ hA3 ((K3.got hRp A2g.1)) (fun b hb _=>K3.get b hb) K3.next
    have es:(ds ++ a.disks.drop i).set i a.disks[i].flush=ds ++ [a.disks[i].flush] ++ a.disks.drop (i+1):=by
     rw [hdr,List.set_append_right _ _ ω,e1,Nat.sub_self,List.set_cons_zero,List.append_assoc,List.singleton_append]
    simpa [es] using this
  ·subst heq
   simp [g14,g15,g16]
   have:(⟨ds ++ a.disks.drop a.disks.length,a.left,a.down⟩:Arr)=a.flush:=by
    simp [Arr.flush,hd]
    simpa using e2.symm
   rw [this] at A2
   exact ⟨A2,K2⟩
 ·exact ⟨ω,μ,μ,μ,[],rfl,μ,by simpa using A,Keep.refl R h⟩
theorem A6n {k:Nat} (A:At (ArrI p q n cells ps a) R h) (hB:ArrB k a) (hk:k < 2 ^ 30) (keep:List Bool) (hkl:keep.length < 2 ^ 62) :
  CSem Tryz.prog 23 [.ptr p 0,OL keep] h fun x h'=>x = .int .i64 0∧At (ArrI p q n cells ps (a.B3 keep)) R h'∧Keep R h h':=by
 refine CSem.body hm Tryz.func23 rfl κ κ (by simp [Tryz.ntmps23]) ?_
 obtain ⟨k1,kq,hcl,hN,hps,hpq,hR⟩:=A.Jd
 simp [Tryz.f23,k1,A8]
 have hN2:a.disks.length≤255:=hB.few
 refine Ar (fun (i:Nat) r hp=>i≤a.disks.length∧rg r 0 = .ptr p 0∧rg r 13 = .sl q 0 a.disks.length n 1∧rg r 14 = .int .i64 a.disks.length∧rg r 15 = .int .i64 i ∧
  ∃ ds kp,rg r 1=OL kp∧kp.length < 2 ^ 62∧ds.length=i∧Gp a.disks keep=ds ++ Gp (a.disks.drop i) kp∧At (ArrI p q n cells ps ⟨ds ++ a.disks.drop i,a.left,a.down⟩) R hp∧Keep R h hp) (a.disks.length - ·) ?_ 0 ?_
 ·rintro i r hp ⟨hi,g0,g14,g15,g16,ds,kp,g1,hkp,e1,e2,A2,K2⟩
  have A2g:=A2.Jd
  rcases Nat.lt_or_eq_of_le hi with hlt|heq
  ·have hlt':(i:Int) < a.disks.length:=by omega
   have hnext:IntKind.i64.wrap ((i:Int)+1)=(i:Int)+1:=wrap64 ω ω
   have hdr:a.disks.drop i=a.disks[i] :: a.disks.drop (i+1):=List.drop_eq_getElem_cons hlt
   have hgi:(ds ++ a.disks.drop i)[i]? = some a.disks[i]:=by rw [List.getElem?_append_right ω,e1,hdr];simp
   obtain ⟨pd,R',hc,hA,hRp,hRq,hRR,back⟩:=A2.focus hgi
   have hdB:=hB.disks a.disks[i] (List.getElem_mem hlt)
   have hci:=(List.getElem?_eq_some_iff.1 hc).1
   simp [g0,g1,g14,g15,g16,hlt',A2g.2.1,hc]
   refine (A1w hA).use ?_
   have hmin:∃ N:Nat,(if kp.length < a.disks[i].waits.length then (kp.length:Int) else a.disks[i].waits.length)=(N:Int)∧N≤kp.length∧kp.take N=kp.take a.disks[i].waits.length∧kp.drop N=kp.drop a.disks[i].waits.length:=by
    by_cases hc:kp.length < a.disks[i].waits.length
    ·exact ⟨kp.length,by rw [if_pos hc],Nat.le_refl _,by rw [List.take_length,List.take_of_length_le ω],by rw [List.drop_length,List.drop_of_length_le ω]⟩
    ·exact ⟨a.disks[i].waits.length,by rw [if_neg hc],ω,rfl,rfl⟩
   obtain ⟨N,hNe,hNl,ht,hdp⟩:=hmin
   have hNk:(N:Int)≤kp.length:=by omega
   simp [g0,g1,g14,g15,g16,hNe,hNk]
   refine (X1 hA hdB.w (by have:=hdB.few;omega) (kp.take N) (by simp;omega)).then ?_
   rintro _ h' ⟨rfl,hA3,K3⟩
   simp [g0,g1,g14,g15,g16,hnext,hNk]
   refine ⟨hNl,i+1,ω,ω,by push_cast;rfl,ds ++ [a.disks[i].B3 (kp.take N)],kp.drop N,rfl,by simp;omega,by simp [e1],?_,?_,K2.trans (K3.mono hRR)⟩
   ·rw [e2,hdr,ht,hdp,Gp,List.append_assoc,List.singleton_append]
   ·have:=back _ _ _ _ hA3 ((K3.got hRp A2g.1)) (fun b hb _=>K3.get b hb) K3.next
    have es:(ds ++ a.disks.drop i).set i (a.disks[i].B3 (kp.take N))=ds ++ [a.disks[i].B3 (kp.take N)] ++ a.disks.drop (i+1):=by
     rw [hdr,List.set_append_right _ _ ω,e1,Nat.sub_self,List.set_cons_zero,List.append_assoc,List.singleton_append]
    simpa [es] using this
  ·subst heq
   obtain ⟨F,⟨G,x1,x6,x7,x8,x9,x2,x10,x3,x11,x12⟩,x4⟩:=A2
   have hpl:=Heap.Ah x1
   simp [g0,g14,g15,g16,A2g.1,A8,Heap.Ad,hpl]
   have:ds=Gp a.disks keep:=by rw [e2];simp [Gp]
   subst this
   have hl0:(Gp a.disks keep).length=a.disks.length:=e1
   refine ⟨⟨F,⟨G,?_,?_,x7,x8,x9,(Dt.loc ps _).keep hp _ _ ?_ (fun b hb=> ?_),x10,x3,x11,x12⟩,x4⟩,(K2.put _ (fun hr=>(hR p hr).1 rfl)).put _ (fun hr=>(hR p hr).1 rfl)⟩
   ·simp [Heap.Ad,hpl,Arr.B3,hl0]
   ·rw [Heap.Ad _ _ _ _ (by simpa using hpl),if_neg (Ne.symm x10),Heap.Ad _ _ _ _ hpl,if_neg (Ne.symm x10)];exact x6
   ·simpa [Arr.B3] using x2
   ·have hne:b≠p:=fun e=>x3 (e ▸ hb)
    rw [Heap.Ad _ _ _ _ (by simpa using hpl),if_neg hne,Heap.Ad _ _ _ _ hpl,if_neg hne]
 ·exact ⟨ω,μ,μ,μ,μ,[],keep,μ,hkl,rfl,μ,by simpa using A,Keep.refl R h⟩
end
def CapA (ws:AV) (l:List AV) (h:Heap) (F:Nat→Prop):Prop :=
 (ws = .nilSl∧l=[]∧∀ b,¬F b)∨∃ wb c cells,ws = .sl wb 0 l.length c 1∧h.get wb=some cells∧cells.length=c∧l.length≤c∧cells.take l.length=l∧∀ b,F b↔b=wb
theorem CapA.keep {ws:AV} {l:List AV} {h h':Heap} {F:Nat→Prop} (w:CapA ws l h F) (hk:∀ b,F b→h'.get b=h.get b):CapA ws l h' F:=by
 rcases w with w|⟨wb,c,cells,h1,h2,h3,h4,h5,h6⟩
 ·exact .inl w
 ·exact .inr ⟨wb,c,cells,h1,(hk wb ((h6 wb).2 rfl)).trans h2,h3,h4,h5,h6⟩
theorem CapA.live {ws:AV} {l:List AV} {h:Heap} {F:Nat→Prop} (w:CapA ws l h F) {b:Nat} (hb:F b):b < h.next:=by
 rcases w with ⟨_,_,h3⟩|⟨wb,c,cells,h1,h2,h3,h4,h5,h6⟩
 ·exact (h3 b hb).elim
 ·rw [(h6 b).1 hb];exact Heap.Ah h2
theorem Ky {P:Program} {t xt:TypeId} (ha:apT P t xt=true) {w:AV} {x:AV} {l:List AV} {h:Heap} {G:Nat→Prop} (hwa:w.atom=true) (hx:CapA x l h G) (hn:l.length < 2 ^ 40) :
  ∃ x' h' G',Bm P (h.alloc [w]) t xt x (.sl h.next 0 1 1 1)=some (x',h')∧CapA x' (l ++ [w]) h' G'∧(∀ b,G' b→G b∨h.next≤b)∧(∀ b,b < h.next→¬G b→h'.get b=h.get b)∧h.next≤h'.next∧h'.lp=h.lp∧h'.gh=h.gh∧x'.atom=true:=by
 obtain ⟨e,bytes,z,he,hz,hap,hb,hb2,hza,hat⟩:=Nh ha
 have hf:Ca (h.alloc [w]) 1 1 (.sl h.next 0 1 1 1)=some [w]:=by simp [Ca,Heap.Aa]
 rcases hx with ⟨rfl,rfl,h0⟩|⟨wb,c,cells,rfl,hg,hcl,hle,htk,hG⟩
 ·have h64:bytes≤2 ^ 47:=by omega
  refine ⟨.sl (h.next+1) 0 1 1 1,(h.alloc [w]).alloc [w],fun b=>b=h.next+1,?_,.inr ⟨h.next+1,1,[w],rfl,?_,rfl,μ,μ,μ⟩,fun b hb=> .inr ω,fun b hb _=> ?_,by simp;omega,rfl,rfl,rfl⟩
  ·simp [Bm,Bu he,hz,hb,AV.len?,hap,hf,h64,hwa]
  ·exact Heap.A9 (h.alloc [w]) _
  ·rw [Heap.Aa,if_neg (by simp;omega),Heap.Aa,if_neg ω]
 ·have hwl:=Heap.Ah hg
  have hga:(h.alloc [w]).get wb=some cells:=Heap.Ag hg
  by_cases hc:l.length+1≤c
  ·have hlc:l.length < cells.length:=by omega
   refine ⟨.sl wb 0 (l.length+1) c 1,(h.alloc [w]).put wb (cells.set l.length w),fun b=>b=wb,?_,.inr ⟨wb,c,cells.set l.length w,μ,?_,by simp [hcl],by simpa using hc,?_,μ⟩,
    fun b hb=> .inl ((hG b).2 hb),fun b hb hnG=> ?_,μ,rfl,rfl,rfl⟩
   ·simp [Bm,Bu he,hz,hb,AV.len?,hap,hf,hga,hc,Nj,hlc,hwa]
   ·rw [Heap.Ad _ _ _ _ (by simp;omega),if_pos rfl]
   ·rw [List.length_append]
    conv=>rhs;rw [←htk]
    apply List.ext_getElem?
    intro i
    simp only [List.length_cons,List.length_nil,Nat.zero_add]
    rw [List.getElem?_take,List.getElem?_append,List.length_take,Nat.min_eq_left ω]
    by_cases h1:i < l.length
    ·rw [if_pos ω,if_pos h1,List.getElem?_set_ne ω,List.getElem?_take,if_pos h1]
    ·by_cases h2:i=l.length
     ·subst h2
      rw [if_pos ω,if_neg h1,List.getElem?_set_self hlc,Nat.sub_self];rfl
     ·rw [if_neg ω,if_neg h1]
      rw [List.getElem?_eq_none (by simp;omega)]
   ·have hne:b≠wb:=fun e=>hnG ((hG b).2 e)
    rw [Heap.Ad _ _ _ _ (by simp;omega),if_neg hne,Heap.Aa,if_neg ω]
  ·have hcl2:c=l.length:=by omega
   have htc:cells=l:=by rw [←htk,List.take_of_length_le ω]
   have hsz:(l.length+1) * bytes≤2 ^ 47:=by
    have:(l.length+1) * bytes≤(2 ^ 40) * 64:=Nat.mul_le_mul ω hb2
    omega
   refine ⟨.sl (h.next+1) 0 (l.length+1) (l.length+1) 1,((h.alloc [w]).kill wb).alloc (l ++ [w]),fun b=>b=h.next+1,?_,.inr ⟨h.next+1,l.length+1,l ++ [w],μ,?_,μ,μ,?_,μ⟩,
    fun b hb=> .inr ω,fun b hb hnG=> ?_,by simp;omega,rfl,rfl,rfl⟩
   ·have h47:l.length+1≤2 ^ 47:=by omega
    simp [Bm,Bu he,hz,hb,AV.len?,hap,hf,hga,hc,hsz,h47,htc,takeN,hwa]
   ·exact Heap.A9 ((h.alloc [w]).kill wb) _
   ·rw [List.take_of_length_le μ]
   ·have hne:b≠wb:=fun e=>hnG ((hG b).2 e)
    rw [Heap.Aa,if_neg (by show b≠h.next+1;omega),Heap.Ek,if_neg hne,Heap.Aa,if_neg ω]
theorem Dt.snoc {ps:List Nat} {ds:List Dsk} {h:Heap} {G F:Nat→Prop} {p:Nat} {d:Dsk} (a:Dt ps ds h G) (b:DskA p d h F) (dis:∀ k,G k→¬F k):Dt (ps ++ [p]) (ds ++ [d]) h (fun k=>G k∨F k):=by
 obtain ⟨hl,Fs,h1,h2,h3⟩:=a
 refine ⟨by simp [hl],fun i=>if i < ds.length then Fs i else F,fun i p' d' hp hd=> ?_,fun i j k hi hj hne=> ?_,fun k=> ?_⟩
 ·by_cases hi:i < ds.length
  ·rw [List.getElem?_append_left ω] at hp
   rw [List.getElem?_append_left hi] at hd
   dsimp only
   rw [if_pos hi];exact h1 i p' d' hp hd
  ·have h5:i=ds.length:=by
    have:=(List.getElem?_eq_some_iff.1 hd).1
    simp at this;omega
   subst h5
   rw [List.getElem?_append_right ω,hl] at hp
   rw [List.getElem?_append_right (Nat.le_refl _)] at hd
   simp at hp hd
   subst hp hd
   dsimp only
   rw [if_neg hi];exact b
 ·simp only [List.length_append,List.length_cons,List.length_nil] at hi hj
  dsimp only
  by_cases hid:i < ds.length
  ·rw [if_pos hid]
   by_cases hjd:j < ds.length
   ·rw [if_pos hjd];exact h2 i j k hid hjd hne
   ·rw [if_neg hjd];exact fun hf=>dis k ((h3 k).2 ⟨i,hid,hf⟩)
  ·rw [if_neg hid]
   by_cases hjd:j < ds.length
   ·rw [if_pos hjd];exact fun hf hf2=>dis k ((h3 k).2 ⟨j,hjd,hf2⟩) hf
   ·omega
 ·simp only [List.length_append,List.length_cons,List.length_nil]
  constructor
  ·rintro (hk|hk)
   ·obtain ⟨i,hi,hf⟩:=(h3 k).1 hk
    exact ⟨i,ω,by rw [if_pos hi];exact hf⟩
   ·exact ⟨ds.length,ω,by rw [if_neg (Nat.lt_irrefl _)];exact hk⟩
  ·rintro ⟨i,hi,hf⟩
   by_cases hid:i < ds.length
   ·rw [if_pos hid] at hf;exact .inl ((h3 k).2 ⟨i,hid,hf⟩)
   ·rw [if_neg hid] at hf;exact .inr hf
def NewI (n z:Int) (h:Heap) (i:Nat) (hp:Heap):Prop:= ∃ x ps Gs Gd,hp.get h.next=some [x,.int .i64 (-1),.bool false]∧x.atom=true∧CapA x (ps.map fun p=>AV.ptr p 0) hp Gs∧Dt ps (List.replicate i (Ew n z)) hp Gd∧(∀ b,Gs b→¬Gd b∧h.next < b)∧(∀ b,Gd b→h.next < b)∧Ext h hp
theorem Aeb {N:Nat} {n z:Int} (hN:1≤N) (hN2:N≤255) (hP:DskP n z) (h:Heap) :
  CSem Tryz.prog 27 [.int .i64 N,.int .i64 n,.int .i64 z] h fun x h'=> ∃ p,x = .tup [.ptr p 0,.int .i64 0]∧At (ArrA p (Ck N n z)) (fun b=>b < h.next) h'∧Ext h h':=by
 refine CSem.body hm Tryz.func27 rfl κ κ (by simp [Tryz.ntmps27]) ?_
 have h1:¬((N:Int) < 1):=by omega
 have h2:¬((255:Int) < N):=by omega
 have hb:Ct Tryz.prog 82 [(1,.int .i64 (-1))]=some (.agg [.nilSl,.int .i64 (-1),.bool false]):=by kernel_rfl
 simp [Tryz.f27,h1,h2,hb,AV.cells]
 refine Ar (fun (i:Nat) r hp=>i≤N∧rg r 1 = .int .i64 n∧rg r 2 = .int .i64 z∧rg r 8 = .ptr h.next 0∧rg r 19 = .int .i64 N∧rg r 20 = .int .i64 i ∧
  NewI n z h i hp) (N - ·) ?_ 0 ?_
 ·rintro i r hp ⟨hi,g1,g2,g8,g19,g20,x,ps,Gs,Gd,k1,kx,kc,kd,d1,d2,E⟩
  have hpl:=Heap.Ah k1
  rcases Nat.lt_or_eq_of_le hi with hlt|heq
  ·have hlt':(i:Int) < N:=by omega
   have hnext:IntKind.i64.wrap ((i:Int)+1)=(i:Int)+1:=wrap64 ω ω
   simp [g1,g2,g8,g19,g20,hlt']
   refine (Aed n z (by have:=hP.2.1;omega) hp).then ?_
   rintro _ h' ⟨_,hq⟩
   obtain ⟨pd,rfl,⟨F,hA,hR⟩,E'⟩:=hq hP
   have k1':=E'.got k1
   have kc':CapA x (ps.map fun p=>AV.ptr p 0) h' Gs:=kc.keep fun b hb=>E'.get b (kc.live hb)
   have kd':Dt ps (List.replicate i (Ew n z)) h' Gd:=(Dt.loc _ _).keep _ _ _ kd fun b hb=>E'.get b ((Dt.loc _ _).live _ _ _ kd hb)
   have hlF:∀ b,F b→hp.next≤b∧b < h'.next:=fun b hb=>⟨Nat.le_of_not_lt fun hlt=>(hR b hlt).1 hb,(DskA.loc _ _).live _ _ _ hA hb⟩
   have hpsl:(ps.map fun p=>AV.ptr p 0).length < 2 ^ 40:=by
    have:=kd.1;simp at this;simp;omega
   obtain ⟨x',h2',G',e,w',q1,q2,q3,q4,q5,q6⟩:=Ky (P:=Tryz.prog) (t:=80) (xt:=80) κ (w:= .ptr pd 0) rfl kc' hpsl
   have hps:h.next < h'.next:=Nat.lt_of_lt_of_le hpl E'.next
   have kp2:h2'.get h.next=some [x,.int .i64 (-1),.bool false]:=(q2 _ hps (fun hg=>by have:=(d1 _ hg).2;omega)).trans k1'
   have hp2:=Heap.Ah kp2
   simp [g1,g2,g8,g19,g20,k1',A8,Bt (P:=Tryz.prog) (t:=80) (xt:=80) κ (show (AV.ptr pd 0).atom=true from rfl),e,kp2,q6,hnext]
   have hsnoc:=kd'.snoc hA (fun k hk hf=>by have:=(hlF k hf).1;have:=(Dt.loc _ _).live _ _ _ kd hk;omega)
   have hkeep:∀ b,h.next < b→b < h'.next→¬Gs b→(h2'.put h.next [x',.int .i64 (-1),.bool false]).get b=h'.get b:=fun b hb hb2 hg=>by
    rw [Heap.Ad _ _ _ _ hp2,if_neg ω];exact q2 b hb2 hg
   have hlive:∀ {b:Nat},(Gd b∨F b)→b < h'.next:=fun {b} hb=>(Dt.loc _ _).live _ _ _ hsnoc hb
   have hGd:∀ b,Gd b∨F b→h.next < b∧¬Gs b:=by
    rintro b (hb|hb)
    ·exact ⟨d2 b hb,fun hg=>(d1 b hg).1 hb⟩
    ·have:=(hlF b hb).1
     exact ⟨ω,fun hg=>by have:=kc.live hg;omega⟩
   refine ⟨i+1,ω,ω,by push_cast;rfl,x',ps ++ [pd],G',fun k=>Gd k∨F k,?_,q6,?_,?_,?_,?_,?_⟩
   ·simp [Heap.Ad,hp2]
   ·rw [List.map_append]
    exact w'.keep fun b hb=>by
     rw [Heap.Ad _ _ _ _ hp2,if_neg]
     rintro rfl
     rcases q1 _ hb with hg|hg
     ·have:=(d1 _ hg).2;omega
     ·omega
   ·rw [List.replicate_succ']
    exact (Dt.loc _ _).keep _ _ _ hsnoc fun b hb=>hkeep b (hGd b hb).1 (hlive hb) (hGd b hb).2
   ·intro b hb
    rcases q1 b hb with hg|hg
    ·refine ⟨?_,(d1 b hg).2⟩
     rintro (hd|hf)
     ·exact (d1 b hg).1 hd
     ·have:=(hlF b hf).1;have:=kc.live hg;omega
    ·exact ⟨fun hd=>by have:=hlive hd;omega,ω⟩
   ·exact fun b hb=>(hGd b hb).1
   ·refine ⟨?_,?_,?_,fun b hb=> ?_⟩
    ·have:=E.next;have:=E'.next;show h.next≤h2'.next;omega
    ·show h2'.lp=_;rw [q4,E'.lp,E.lp]
    ·show h2'.gh=_;rw [q5,E'.gh,E.gh]
    ·rw [Heap.Ad _ _ _ _ hp2,if_neg ω,q2 b (by have:=E.next;have:=E'.next;omega) (fun hg=>by have:=(d1 b hg).2;omega),E'.get b (by have:=E.next;omega),E.get b hb]
  ·subst heq
   simp [g1,g2,g8,g19,g20]
   have hpn:∀ b,(b=h.next∨Gs b∨Gd b)→¬b < h.next:=by
    rintro b (rfl|hb|hb)
    ·omega
    ·have:=(d1 b hb).2;omega
    ·have:=d2 b hb;omega
   have hna:Ck (i:Int) n z=⟨List.replicate i (Ew n z),-1,false⟩:=rfl
   refine ⟨?_,E⟩
   rw [hna]
   rcases kc with ⟨rfl,h5,h6⟩|⟨q,c,cells,rfl,h6,h7,h8,h9,h10⟩
   ·have h5:ps=[]:=by simpa using h5
    exact ⟨fun b=>b=h.next∨Gd b,⟨_,ps,Gd,k1,kd,fun hg=>by have:=d2 _ hg;omega,.inl ⟨rfl,h5,fun _=>Iff.rfl⟩⟩,fun b hb=>⟨fun hf=>hpn b (hf.elim .inl fun hg=> .inr (.inr hg)) hb,Nat.lt_of_lt_of_le hb E.next⟩⟩
   ·rw [List.length_map] at k1 h8 h9
    have hq:=(h10 q).2 rfl
    exact ⟨fun b=>b=h.next∨b=q∨Gd b,⟨_,ps,Gd,k1,kd,fun hg=>by have:=d2 _ hg;omega,.inr ⟨q,c,cells,rfl,h6,h7,h8,h9,by have:=(d1 q hq).2;omega,(d1 q hq).1,fun _=>Iff.rfl⟩⟩,
     fun b hb=>⟨fun hf=>hpn b (hf.elim .inl fun hg=>hg.elim (fun e=> .inr (.inl (e ▸ hq))) fun hg=> .inr (.inr hg)) hb,Nat.lt_of_lt_of_le hb E.next⟩⟩
 ·refine ⟨ω,μ,μ,μ,μ,μ,.nilSl,[],fun _=>False,fun _=>False,Heap.A9 _ _,rfl,.inl ⟨rfl,rfl,fun _ h=>h⟩,⟨rfl,fun _ _=>False,fun i p d hp=>by simp at hp,fun _ _ _ h1=>by simp at h1,μ⟩,fun _ h=>h.elim,fun _ h=>h.elim,(Ext.refl h).alloc _⟩
theorem wrap32 {n:Int} (h1:0≤n) (h2:n < 4294967296):IntKind.u32.wrap n=n:=by
 simp only [IntKind.wrap,IntKind.bits,IntKind.signed]
 simp
 omega
theorem Aej {a b:Int} (a0:0≤a) (a1:a < 4294967296) (b0:0≤b) (b1:b < 4294967296):intX .xor .u32 a b=some (.int .u32 ((a.toNat ^^^ b.toNat:Nat):Int)):=by
 have ha:a.toNat < 2 ^ 32:=by omega
 have hb:b.toNat < 2 ^ 32:=by omega
 have hx:=Nat.xor_lt_two_pow ha hb
 simp only [intX]
 have e:(BitVec.ofInt IntKind.u32.bits a ^^^ BitVec.ofInt IntKind.u32.bits b).toNat=a.toNat ^^^ b.toNat:=by
  show (BitVec.ofInt 32 a ^^^ BitVec.ofInt 32 b).toNat=_
  rw [BitVec.toNat_xor,BitVec.toNat_ofInt,BitVec.toNat_ofInt]
  congr 1<;>omega
 rw [e,wrap32 ω ω]
theorem Ahr {a:Int} (a0:0≤a) (a1:a < 4294967296):intX .and .u32 a 1=some (.int .u32 (a % 2)):=by
 simp only [intX]
 have e:(BitVec.ofInt IntKind.u32.bits a &&& BitVec.ofInt IntKind.u32.bits 1).toNat=a.toNat &&& 1:=by
  show (BitVec.ofInt 32 a &&& BitVec.ofInt 32 1).toNat=_
  rw [BitVec.toNat_and,BitVec.toNat_ofInt,BitVec.toNat_ofInt]
  congr 1<;>omega
 rw [e,Nat.and_one_is_mod,wrap32 ω ω]
 congr 2
 omega
theorem not32 {a:Nat} (a1:a < 4294967296):unX .xor (.int .u32 (a:Int))=some (.int .u32 ((a ^^^ 4294967295:Nat):Int)):=by
 have ha:a < 2 ^ 32:=by omega
 have hx:=Nat.xor_lt_two_pow ha (show 4294967295 < 2 ^ 32 by decide)
 show some (AV.int .u32 (IntKind.u32.wrap (((BitVec.ofInt 32 (4294967295:Int) ^^^ BitVec.ofInt 32 (a:Int)).toNat:Nat):Int)))=_
 have e:(BitVec.ofInt 32 (4294967295:Int) ^^^ BitVec.ofInt 32 (a:Int)).toNat=a ^^^ 4294967295:=by
  rw [BitVec.toNat_xor,BitVec.toNat_ofInt,BitVec.toNat_ofInt,Nat.xor_comm]
  congr 1
  omega
 rw [e,wrap32 ω ω]
@[simp] theorem shr4 {k:IntKind} {a:Nat} (hk:4≤k.bits):Fv .shr k a 4=some (.int k ((a / 16:Nat):Int)):=by
 have:min (4:Int).toNat k.bits=4:=by show min 4 k.bits=4;omega
 simp only [Fv,this]
 rw [if_neg ν,Int.fdiv_eq_ediv_of_nonneg _ ν]
 rfl
def u32c (n:Nat):AV:= .int .u32 n
@[simp] theorem u32c_atom (n:Nat):(u32c n).atom=true:=id rfl
@[simp] theorem u32c_cells (n:Nat):(u32c n).cells=[u32c n]:=id rfl
def U4:Nat→Nat→Nat
 | 0,x=>x
 | n+1,x=>Gj (U4 n x)
theorem A3z {x:Nat} (h:x < 2 ^ 32):∀ n,U4 n x < 2 ^ 32
 | 0=>h
 | n+1=>Ng (A3z h n)
def ctab (i:Nat):List AV:=(List.range 16).map fun j=>u32c (if j < i then c4 j else 0)
theorem Zs:B7 Tryz.prog 237=some (.agg (ctab 0)):=by kernel_rfl
theorem Kb (i:Nat):(ctab i).length=16:=by simp [ctab]
theorem Aek {i:Nat} (hi:i < 16):(ctab i).set i (u32c (c4 i))=ctab (i+1):=by
 apply List.ext_getElem?
 intro j
 by_cases hj:j=i
 ·subst hj
  rw [List.getElem?_set_self (by rw [Kb];exact hi)]
  simp [ctab,List.getElem?_map,List.getElem?_range hi]
 ·rw [List.getElem?_set_ne (Ne.symm hj)]
  by_cases h16:j < 16
  ·simp only [ctab,List.getElem?_map,List.getElem?_range h16,Option.map_some]
   congr 2
   by_cases h1:j < i
   ·rw [if_pos h1,if_pos ω]
   ·rw [if_neg h1,if_neg ω]
  ·rw [List.getElem?_eq_none (by rw [Kb];omega),List.getElem?_eq_none (by rw [Kb];omega)]
def CMk (i:Nat) (r:Regs) (h:Heap):Prop :=
 i≤16∧rg r 0 = .ptr 0 0∧rg r 1 = .ptr 1 0∧rg r 4 = .int .i64 i∧h.get 0=some (ctab 0)∧h.get 1=some (ctab i)
def CMk2 (i k:Nat) (h1:Heap) (r:Regs) (h:Heap):Prop :=
 k≤4∧rg r 0 = .ptr 0 0∧rg r 1 = .ptr 1 0∧rg r 2 = .int .i64 i∧rg r 3 = .int .u32 (U4 k i)∧rg r 4 = .int .i64 i∧rg r 9 = .int .i64 k∧h=h1
theorem A73:As Tryz.prog 165 [] (.agg (ctab 16)):=by
 refine As.Ba (k:=2) ?_
 refine CSem.body hm Tryz.func165 rfl κ κ (by simp [Tryz.ntmps165]) ?_
 simp [Tryz.f165,Zs,AV.cells]
 refine Ar CMk (16 - ·) ?_ 0 ?_
 ·rintro i r h ⟨hi,g0,g1,g4,hg0,hg1⟩
  have hn:1 < h.next:=Heap.Ah hg1
  rcases Nat.lt_or_eq_of_le hi with hlt|heq
  ·have hlt':(i:Int) < 16:=by omega
   have hw1:IntKind.i64.wrap ((i:Int)+1)=(i:Int)+1:=wrap64 ω ω
   have hw2:IntKind.u32.wrap (i:Int)=(i:Int):=wrap32 ω ω
   have hi32:i < 2 ^ 32:=by omega
   simp [g0,g1,g4,hlt',hw2]
   refine Ar (fun k=>CMk2 i k h) (4 - ·) ?_ 0 ?_
   ·rintro k r h2 ⟨hk,g0,g1,g2,g3,g4,g9,rfl⟩
    have hx:=A3z hi32 k
    rcases Nat.lt_or_eq_of_le hk with hlt2|heq2
    ·have hlt2':(k:Int) < 4:=by omega
     have hw3:IntKind.i64.wrap ((k:Int)+1)=(k:Int)+1:=wrap64 ω ω
     have hx2:=Lm (U4 k i)
     generalize hX:U4 k i=X at g3 hx hx2
     have ha:intX .and .u32 (X:Int) 1=some (.int .u32 ((X:Int) % 2)):=Ahr ω ω
     have hxo:intX .xor .u32 ((X / 2:Nat):Int) 2197175160=some (.int .u32 ((X / 2 ^^^ 2197175160:Nat):Int)):=Aej ω ω ω ω
     simp at hxo
     by_cases hodd:X % 2=1
     ·have h0:¬((X:Int) % 2=0):=by omega
      simp [g0,g1,g2,g3,g4,g9,hlt2',hw3,ha,h0,hxo]
      refine ⟨k+1,ω,ω,by simpa using g0,by simpa using g1,by simpa using g2,?_,by simpa using g4,μ,rfl⟩
      simp [U4,hX,hx2,hodd]
     ·have h0:(X:Int) % 2=0:=by omega
      simp [g0,g1,g2,g3,g4,g9,hlt2',hw3,ha,h0,hxo]
      refine ⟨k+1,ω,ω,by simpa using g0,by simpa using g1,by simpa using g2,?_,by simpa using g4,μ,rfl⟩
      simp [U4,hX,hx2,hodd]
    ·subst heq2
     have hset:=Aek hlt
     have hl16:i < (ctab i).length:=by rw [Kb];exact hlt
     have hz:(szT Tryz.prog 237)=some 16:=by kernel_rfl
     simp [g0,g1,g2,g3,g4,g9,hw1,Bx,hg1,Kb,hlt,hlt']
     refine ⟨i+1,ω,ω,by simpa using g0,by simpa using g1,μ,?_,?_⟩
     ·rw [Heap.Ad _ _ _ _ hn,if_neg ν];exact hg0
     ·rw [Heap.Ad _ _ _ _ hn,if_pos rfl,←hset];rfl
   ·simp [CMk2,g0,g1,g4,hw2,U4]
  ·subst heq
   have hz:(szT Tryz.prog 237)=some 16:=by kernel_rfl
   have hn0:0 < h.next:=Heap.Ah hg0
   have hat:∀ i,(ctab i).all AV.atom=true:=fun i=>by simp [ctab]
   have hsn:snap (h.put 0 (ctab 16)) false 2 (.agg (ctab 16))=some (.agg (ctab 16)):=by
    have hm:∀ l:List AV,(∀ x∈l,snap (h.put 0 (ctab 16)) false 1 x=some x)→mapL (snap (h.put 0 (ctab 16)) false 1) l=some l:=by
     intro l hl
     have:=Qy (f:=snap (h.put 0 (ctab 16)) false 1) (g:=id) (g':=id) (l:=l) hl
     simpa using this
    rw [Da,hm _ fun x hx=> ?_]
    ·rfl
    ·simp only [ctab,List.mem_map] at hx
     obtain ⟨y,_,rfl⟩:=hx
     rfl
   simp [g0,g1,g4,Ac,Aj,hz,hg1,hg0,Kb,hat,Qz,Heap.Ad,hn0,hsn]
 ·simp [CMk,Heap.Aa]
  rfl
theorem A40 {y:Nat} : (ctab 16)[y % 16]? = some (u32c (c4 (y % 16))):=by
 have h:y % 16 < 16:=Nat.mod_lt _ ν
 simp [ctab,List.getElem?_map,List.getElem?_range h,h]
def CMore (s:Txt) (X:Nat) (tb sb:Nat) (h1:Heap) (i:Nat) (r:Regs) (h:Heap):Prop :=
 i≤s.length∧rg r 5 = .ptr tb 0∧rg r 6 = .int .u32 (crcL X (s.take i))∧rg r 13 = .sl sb 0 s.length s.length 1∧rg r 14 = .int .i64 s.length∧rg r 15 = .int .i64 i∧h=h1
theorem A74 (sum:Nat) (s:Txt) (hs:sum < 2 ^ 32) (hl:s.length < 2 ^ 62):As Tryz.prog 140 [.int .u32 sum,S s] (.int .u32 ((crcL (sum ^^^ 4294967295) s ^^^ 4294967295:Nat):Int)):=by
 refine As.Ba (k:=2) ?_
 refine CSem.body hm Tryz.func140 rfl κ κ (by simp [Tryz.ntmps140]) ?_
 have hn:=not32 (a:=sum) ω
 simp at hn
 have hX:sum ^^^ 4294967295 < 2 ^ 32:=Nat.xor_lt_two_pow hs ν
 have hz:(szT Tryz.prog 237)=some 16:=by kernel_rfl
 have hat:(ctab 16).all AV.atom=true:=by simp [ctab]
 simp [Tryz.f140]
 refine (A73.call (k:=1) μ).use ?_
 simp [Zs,AV.cells,Ac,Aj,hz,Kb,hat,Qz,Heap.Aa,Heap.Ad,hn]
 generalize hH:Heap.alloc (Heap.put _ _ _) _=H
 have m0:H.get 0=some (ctab 16):=by rw [←hH];exact Heap.Ag (Heap.Ak (Heap.A9 _ _))
 have m1:H.get 1=some (s.map B8):=by rw [←hH];exact Heap.A9 (Heap.put _ _ _) _
 clear hH
 generalize sum ^^^ 4294967295=X at hX ⊢
 refine Ar (CMore s X 0 1 H) (s.length - ·) ?_ 0 ?_
 ·rintro i r h2 ⟨hi,g5,g6,g13,g14,g15,rfl⟩
  rcases Nat.lt_or_eq_of_le hi with hlt|heq
  ·have hlt':(i:Int) < s.length:=by omega
   have hnext:IntKind.i64.wrap ((i:Int)+1)=(i:Int)+1:=wrap64 ω ω
   have hy:=Uv (s.take i) X hX
   have htk:s.take (i+1)=s.take i ++ [s[i]]:=List.take_succ_eq_append_getElem hlt
   have hcr:crcL X (s.take (i+1))=c4 (c4 (crcL X (s.take i) ^^^ s[i].toNat)):=by rw [htk,Zk,A3w]
   generalize crcL X (s.take i)=y at g6 hy hcr
   have hb:s[i].toNat < 256:=s[i].toNat_lt
   have hz1:y ^^^ s[i].toNat < 2 ^ 32:=Nat.xor_lt_two_pow hy ω
   have hc32:IntKind.u32.wrap (s[i].toNat:Int)=s[i].toNat:=wrap32 ω ω
   have x1:intX .xor .u32 (y:Int) (s[i].toNat:Int)=some (.int .u32 ((y ^^^ s[i].toNat:Nat):Int)):=by
    have:=Aej (a:=(y:Int)) (b:=(s[i].toNat:Int)) ω ω ω ω
    simpa using this
   generalize y ^^^ s[i].toNat=z at hz1 x1 hcr
   have hc1:=A8z hz1
   have hs4:∀ w:Nat,Fv .shr .u32 (w:Int) 4=some (.int .u32 ((w / 16:Nat):Int)):=fun w=>shr4 ν
   have xs:∀ w:Nat,w < 2 ^ 32→intX .xor .u32 ((w:Int) / 16) (c4 (w % 16):Int)=some (.int .u32 ((c4 w:Nat):Int)):=by
    intro w hw
    have h16:c4 (w % 16) < 2 ^ 32:=A8z ω
    have:=Aej (a:=((w / 16:Nat):Int)) (b:=(c4 (w % 16):Int)) ω ω ω ω
    rw [Int.toNat_natCast,Int.toNat_natCast] at this
    rw [c4_tab w]
    exact this
   have hrem:∀ w:Nat,intX .rem .u32 (w:Int) 16=some (.int .u32 ((w % 16:Nat):Int)):=fun w=>by simp [intX,Int.tmod_eq_emod_of_nonneg]
   have hmz:=Nat.mod_lt z (show 16 > 0 by decide)
   have hmz2:=Nat.mod_lt (c4 z) (show 16 > 0 by decide)
   have t1:=A40 (y:=z)
   have t2:=A40 (y:=c4 z)
   have hmt:∀ w:Nat,((w:Int) % 16).toNat=w % 16:=fun w=>by omega
   have hm0:∀ w:Nat,0≤(w:Int) % 16:=fun w=>by omega
   have hm1:∀ w:Nat,(w:Int) % 16 < 16:=fun w=>by omega
   simp [g5,g6,g13,g14,g15,hlt,hlt',m1,B8,hc32,x1,hs4,hrem,Bx,m0,t1,t2,hnext,u32c,hmt,hm0,hm1,xs z hz1,xs (c4 z) hc1]
   refine ⟨i+1,ω,ω,by simpa using g5,?_,by simpa using g13,by simpa using g14,μ,rfl⟩
   simp [hcr]
  ·subst heq
   rw [List.take_length] at g6
   have hn2:=not32 (a:=crcL X s) (by have:=Uv s X hX;omega)
   simp at hn2
   simp [g5,g6,g13,g14,g15,hn2]
 ·simp [CMore,crcL]
theorem Zt (s:Txt) (hl:s.length < 2 ^ 62):As Tryz.prog 111 [S s] (.int .u32 (crcR s)):=by
 refine As.Ba (k:=2) ?_
 refine CSem.body hm Tryz.func111 rfl κ κ (by simp [Tryz.ntmps111]) ?_
 simp [Tryz.f111]
 refine ((A74 0 s ν hl).call (k:=1) μ).use ?_
 simp [crcR]
end Go.Proofs.YtmbndhciflilbaaGreatDoor.X
