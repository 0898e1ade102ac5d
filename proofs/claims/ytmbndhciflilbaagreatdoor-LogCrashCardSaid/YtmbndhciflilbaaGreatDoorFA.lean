/-
  Texts of a proof, as one: F1, F2, G1, M1, M2, M3, M4.
-/
import Derived.Test.YtmbndhciflilbaaGreatDoorM0
namespace Go.Proofs.YtmbndhciflilbaaGreatDoor.F
set_option linter.unusedVariables false
def twN (x:Nat):Nat:=bif Nat.ble 256 (Nat.mul 2 x) then Nat.xor (Nat.mul 2 x) 285 else Nat.mul 2 x
def gL:Nat→Nat→Nat→Nat→Nat
 | 0,_,_,p=>p
 | n+1,x,b,p=>gL n (twN x) (Nat.div b 2) (bif Nat.beq (Nat.mod b 2) 1 then Nat.xor p x else p)
def gN (a b:Nat):Nat:=gL 8 a b 0
def eT:Nat:=0x18e47add86c361b83cfe9fa7db0582c160b8bcbebfbf3f7f5f47a3d90482412098a45ac562b9bc3eff9f279b259a251a653a7dde070381c0e078dc86432198241ae57a5dc6e3795c46231964babdbe3fff1f67bb3d7e5fc7e3f91c663bfd1e673b7d5e472399249aa55a452299a4da8542a158442219e4fa9da6db85c2e1785cc663397c5ec763b93c7edf87c3e1f81ce67bdd068341a0d884422118643afd9e271b65ba3dfe1fe7fb1d66bbbd3e7fdf0783c1e0f89ca65bc5e2f99c261be5fa1de6fb9d269ba5da05028140a058c46239fc1ee77b5d46a35944a259c4e279dc06030180c06038fc9ea75b45a2d984c261387cde8743a1d80402010080402018e47add86c361b83cfe9fa7db0582c160b8bcbebfbf3f7f5f47a3d90482412098a45ac562b9bc3eff9f279b259a251a653a7dde070381c0e078dc86432198241ae57a5dc6e3795c46231964babdbe3fff1f67bb3d7e5fc7e3f91c663bfd1e673b7d5e472399249aa55a452299a4da8542a158442219e4fa9da6db85c2e1785cc663397c5ec763b93c7edf87c3e1f81ce67bdd068341a0d884422118643afd9e271b65ba3dfe1fe7fb1d66bbbd3e7fdf0783c1e0f89ca65bc5e2f99c261be5fa1de6fb9d269ba5da05028140a058c46239fc1ee77b5d46a35944a259c4e279dc06030180c06038fc9ea75b45a2d984c261387cde8743a1d8040201008040201
def lT:Nat:=0xaf5850a8eaf4d674e8ade7e6e9d5ae4fd72c757aeb16f50b51a0a99cb05f59cb5a3eccbbb18660fbaa559d29523ba16cf66f0c7fec4917c476a47bb7d8432d1fa2416d4753393c849e5d2a14abd356f261befcdcb2978790cdcfbc955bd13f372e892023d99244117cb4b8267799a5e318fec531edde4a670d63808cf7c0700757a7f373ace5d44e2b79150a9f9b5eca3dba85fa54283a6b6e7e48c3a3b6421e404638835c13d2f1bddb968fce94d03688229110b32598e2fd30dd66628bbf06a672e44d78099ac9b9f9276a7dc2b51d458212f0da8e9335210f24e12f658a05714c08c8f869c11c81ef8d340ee064044bc7681bee33df03c61a320219010000
def tb (T i:Nat):Nat:=Nat.mod (Nat.shiftRight T (Nat.mul 8 i)) 256
def gT (a b:Nat):Nat:=bif Nat.beq a 0 then 0 else bif Nat.beq b 0 then 0 else tb eT (Nat.add (tb lT a) (tb lT b))
def all (p:Nat→Bool):Nat→Bool
 | 0=>true
 | n+1=>p n && all p n
theorem Lb {p:Nat→Bool} : ∀ {n:Nat},all p n=true→∀ i,i < n→p i=true
 | 0,_,i,h=>absurd h (Nat.not_lt_zero i)
 | n+1,h,i,hi=>by
  simp only [all,Bool.and_eq_true] at h
  rcases Nat.lt_or_ge i n with h1|h1
  ·exact Lb h.2 i h1
  ·obtain rfl:i=n:=by omega
   exact h.1
theorem chk1:all (fun a=>all (fun b=>Nat.beq (gN a b) (gT a b)) 256) 256=true:=by decide+kernel
theorem chk2:all (fun a=>all (fun b=>Nat.beq (twN (Nat.xor a b)) (Nat.xor (twN a) (twN b))) 256) 256=true:=by decide+kernel
theorem chk3:all (fun i=>Nat.beq (tb lT (tb eT i)) (Nat.mod i 255) && Nat.beq (tb eT i) (tb eT (Nat.mod i 255)) && !Nat.beq (tb eT i) 0 && Nat.ble (Nat.succ (tb eT i)) 256) 511=true:=by decide+kernel
theorem chk4:all (fun a=>(Nat.beq a 0 || Nat.beq (tb eT (tb lT a)) a) && Nat.ble (Nat.succ (tb lT a)) 255) 256=true:=by decide+kernel
end Go.Proofs.YtmbndhciflilbaaGreatDoor.F
namespace Go.Proofs.YtmbndhciflilbaaGreatDoor.F
set_option linter.unusedVariables false
theorem Pz {a b:Nat} (ha:a < 256) (hb:b < 256):gN a b=if a=0∨b=0 then 0 else tb eT (tb lT a+tb lT b):=by
 have:=Nat.eq_of_beq_eq_true (Lb (Lb chk1 a ha) b hb)
 rw [this]
 show gT a b=_
 unfold gT
 have hb0:∀ x:Nat,Nat.beq x 0=decide (x=0):=by intro x;cases x<;>rfl
 rw [hb0,hb0]
 by_cases h0:a=0
 ·simp [h0]
 ·by_cases h1:b=0
  ·simp [h0,h1]
  ·simp [h0,h1]
theorem Vz {i:Nat} (h:i < 511):tb lT (tb eT i)=i % 255∧tb eT i=tb eT (i % 255)∧tb eT i≠0∧tb eT i < 256:=by
 have:=Lb chk3 i h
 simp only [Bool.and_eq_true,Nat.beq_eq,Bool.not_eq_true',Nat.ble_eq] at this
 refine ⟨this.1.1.1,this.1.1.2,?_,this.2⟩
 have h2:=this.1.2
 intro h0
 rw [h0] at h2
 cases h2
theorem Z2 {a:Nat} (h:a < 256):(a≠0→tb eT (tb lT a)=a)∧tb lT a < 255:=by
 have:=Lb chk4 a h
 simp only [Bool.and_eq_true,Bool.or_eq_true,Nat.beq_eq,Nat.ble_eq] at this
 exact ⟨fun h0=>this.1.resolve_left h0,this.2⟩
theorem A38 {a b:Nat} (ha:a < 256) (hb:b < 256):gN a b < 256:=by
 rw [Pz ha hb]
 split
 ·omega
 ·exact (Vz (by have:=(Z2 ha).2;have:=(Z2 hb).2;omega)).2.2.2
theorem Ah4 {a b:Nat} (ha:a < 256) (hb:b < 256):gN a b=gN b a:=by
 rw [Pz ha hb,Pz hb ha,Nat.add_comm]
 by_cases h0:a=0<;>by_cases h1:b=0<;>simp [h0,h1]
theorem Pc {a:Nat} (ha:a < 256):gN a 0=0:=by rw [Pz ha ω];simp
theorem Rh {a:Nat} (ha:a < 256):gN 0 a=0:=by rw [Pz ω ha];simp
theorem Adp {a b c:Nat} (ha:a < 256) (hb:b < 256) (hc:c < 256):gN (gN a b) c=gN a (gN b c):=by
 by_cases h0:a=0
 ·subst h0;rw [Rh hb,Rh hc,Rh (A38 hb hc)]
 by_cases h1:b=0
 ·subst h1;rw [Pc ha,Rh hc,Pc ha]
 by_cases h2:c=0
 ·subst h2;rw [Pc hb,Pc ha,Pc (A38 ha hb)]
 have la:=(Z2 ha).2
 have lb:=(Z2 hb).2
 have lc:=(Z2 hc).2
 have e1:gN a b=tb eT (tb lT a+tb lT b):=by rw [Pz ha hb,if_neg (by simp [h0,h1])]
 have e2:gN b c=tb eT (tb lT b+tb lT c):=by rw [Pz hb hc,if_neg (by simp [h1,h2])]
 have k1:=Vz (i:=tb lT a+tb lT b) ω
 have k2:=Vz (i:=tb lT b+tb lT c) ω
 rw [Pz (A38 ha hb) hc,Pz ha (A38 hb hc),e1,e2,if_neg (by simp [k1.2.2.1,h2]),if_neg (by simp [k2.2.2.1,h0]),k1.1,k2.1]
 rw [(Vz (i:=(tb lT a+tb lT b) % 255+tb lT c) ω).2.1,(Vz (i:=tb lT a+(tb lT b+tb lT c) % 255) ω).2.1]
 congr 1
 omega
theorem chk5:all (fun a=>Nat.beq (gN 1 a) a && Nat.ble (Nat.succ (twN a)) 256) 256=true:=by decide+kernel
theorem one_gN {a:Nat} (ha:a < 256):gN 1 a=a:=by
 have:=Lb chk5 a ha
 simp only [Bool.and_eq_true,Nat.beq_eq] at this
 exact this.1
theorem Yt {a:Nat} (ha:a < 256):twN a < 256:=by
 have:=Lb chk5 a ha
 simp only [Bool.and_eq_true,Nat.ble_eq] at this
 exact this.2
theorem tw_xor {a b:Nat} (ha:a < 256) (hb:b < 256):twN (a ^^^ b)=twN a ^^^ twN b :=
 Nat.eq_of_beq_eq_true (Lb (Lb chk2 a ha) b hb)
theorem gL_xor:∀ (n x y b p q:Nat),x < 256→y < 256→gL n (x ^^^ y) b (p ^^^ q)=gL n x b p ^^^ gL n y b q:=by
 intro n
 induction n with
 | zero=>intros;rfl
 | succ n ih =>
  intro x y b p q hx hy
  simp only [gL]
  rw [tw_xor hx hy]
  cases Nat.beq (Nat.mod b 2) 1 with
  | false=>exact ih _ _ _ _ _ (Yt hx) (Yt hy)
  | true =>
   have e:Nat.xor (p ^^^ q) (x ^^^ y)=(Nat.xor p x) ^^^ (Nat.xor q y):=by
    show (p ^^^ q) ^^^ (x ^^^ y)=(p ^^^ x) ^^^ (q ^^^ y)
    rw [Nat.xor_assoc,Nat.xor_assoc,←Nat.xor_assoc q,Nat.xor_comm q x,Nat.xor_assoc x]
   simp only [cond_true,e]
   exact ih _ _ _ _ _ (Yt hx) (Yt hy)
theorem gN_xor {a b c:Nat} (ha:a < 256) (hb:b < 256):gN (a ^^^ b) c=gN a c ^^^ gN b c:=gL_xor 8 a b c 0 0 ha hb
def gm (a b:UInt8):UInt8:=UInt8.ofNat (gN a.toNat b.toNat)
theorem lt8 (a:UInt8):a.toNat < 256:=a.toNat_lt
theorem Gk (a b:UInt8):(gm a b).toNat=gN a.toNat b.toNat:=by
 simp only [gm,UInt8.toNat_ofNat']
 exact Nat.mod_eq_of_lt (A38 (lt8 a) (lt8 b))
theorem Dg (a b:UInt8):gm a b=gm b a:=UInt8.toNat_inj.1 (by rw [Gk,Gk,Ah4 (lt8 a) (lt8 b)])
theorem Cv (a b c:UInt8):gm (gm a b) c=gm a (gm b c):=UInt8.toNat_inj.1 (by simp only [Gk];exact Adp (lt8 a) (lt8 b) (lt8 c))
theorem W2 (a b c:UInt8):gm (a ^^^ b) c=gm a c ^^^ gm b c:=UInt8.toNat_inj.1 (by simp only [Gk,UInt8.toNat_xor];exact gN_xor (lt8 a) (lt8 b))
theorem W4 (a b c:UInt8):gm a (b ^^^ c)=gm a b ^^^ gm a c:=by rw [Dg,W2,Dg b,Dg c]
@[simp] theorem A1f (a:UInt8):gm a 0=0:=UInt8.toNat_inj.1 (by rw [Gk];exact Pc (lt8 a))
@[simp] theorem Ra (a:UInt8):gm 0 a=0:=UInt8.toNat_inj.1 (by rw [Gk];exact Rh (lt8 a))
@[simp] theorem Qb (a:UInt8):gm 1 a=a:=UInt8.toNat_inj.1 (by rw [Gk];exact one_gN (lt8 a))
@[simp] theorem gm_one (a:UInt8):gm a 1=a:=by rw [Dg,Qb]
def gi (a:UInt8):UInt8:=if a=0 then 0 else UInt8.ofNat (tb eT (255 - tb lT a.toNat))
theorem W5 {a:UInt8} (ha:a≠0):gm a (gi a)=1:=by
 have h0:a.toNat≠0:=fun h=>ha (UInt8.toNat_inj.1 h)
 have hl:=(Z2 (lt8 a)).2
 have k:=Vz (i:=255 - tb lT a.toNat) ω
 refine UInt8.toNat_inj.1 ?_
 rw [Gk,gi,if_neg ha]
 have e:(UInt8.ofNat (tb eT (255 - tb lT a.toNat))).toNat=tb eT (255 - tb lT a.toNat):=by
  simp only [UInt8.toNat_ofNat']
  exact Nat.mod_eq_of_lt k.2.2.2
 rw [e,Pz (lt8 a) k.2.2.2,if_neg (by simp [h0,k.2.2.1]),k.1,(Vz ω).2.1]
 have:(tb lT a.toNat+(255 - tb lT a.toNat) % 255) % 255=0:=by omega
 rw [this]
 decide+kernel
theorem gi_gm {a:UInt8} (ha:a≠0):gm (gi a) a=1:=by rw [Dg,W5 ha]
theorem Adq {a:UInt8} (ha:a≠0):gi a≠0:=fun h=>by
 have:=W5 ha
 rw [h,A1f] at this
 exact absurd this ν
theorem Ju {a b:UInt8} (h:gm a b=0):a=0∨b=0:=by
 by_cases ha:a=0
 ·exact .inl ha
 ·right
  have:gm (gi a) (gm a b)=0:=by rw [h,A1f]
  rwa [←Cv,gi_gm ha,Qb] at this
theorem Adr (a b c d:UInt8):(a ^^^ b) ^^^ (c ^^^ d)=(a ^^^ c) ^^^ (b ^^^ d):=by
 rw [UInt8.xor_assoc,UInt8.xor_assoc,←UInt8.xor_assoc b,UInt8.xor_comm b c,UInt8.xor_assoc c]
theorem Mz {a b:UInt8} : a ^^^ b=0↔a=b:=by
 constructor
 ·intro h
  have:a ^^^ b ^^^ b=b:=by rw [h,UInt8.zero_xor]
  rwa [UInt8.xor_assoc,UInt8.xor_self,UInt8.xor_zero] at this
 ·rintro rfl;exact UInt8.xor_self
end Go.Proofs.YtmbndhciflilbaaGreatDoor.F
namespace Go.Proofs.YtmbndhciflilbaaGreatDoor.F
set_option linter.unusedVariables false
abbrev Tab:=List (List UInt8)
def rowN (M:Tab) (i:Nat):List UInt8:=M[i]?.getD []
def ent (M:Tab) (i j:Nat):UInt8:=(rowN M i)[j]?.getD 0
def Cq (a:List UInt8) (c:UInt8):List UInt8:=a.map fun x=>gm x c
def addL (a y:List UInt8) (c:UInt8):List UInt8:=List.zipWith (fun p q=>p ^^^ gm q c) a y
def xorL (a b:List UInt8):List UInt8:=List.zipWith (· ^^^ ·) a b
def sumL (n:Nat) (rows:List (List UInt8)):List UInt8:=rows.foldl xorL (List.replicate n 0)
def Cu (n j:Nat):List UInt8:=(List.replicate n 0).set j 1
def Bs (n:Nat):List (List UInt8):=(List.range n).map (Cu n)
def Dh (M:Tab) (r c:Nat):Tab:=(M.set r (rowN M c)).set c (rowN M r)
def J1 (M:Tab) (c:Nat) (x:UInt8):Tab:=M.set c (Cq (rowN M c) x)
def A2q (c k:Nat) (s:Tab×Tab):Tab×Tab :=
 if k=c then s else (s.1.set k (addL (rowN s.1 k) (rowN s.1 c) (ent s.1 k c)),s.2.set k (addL (rowN s.2 k) (rowN s.2 c) (ent s.1 k c)))
def Ge (c:Nat):Nat→Tab×Tab→Tab×Tab
 | 0,s=>s
 | k+1,s=>A2q c k (Ge c k s)
def Lg (L:Tab) (c:Nat):Nat→Nat→Option Nat
 | 0,_=>none
 | f+1,r=>if ent L r c≠0 then some r else Lg L c f (r+1)
def Jn (c r:Nat) (s:Tab×Tab):Tab×Tab :=
 let x:=gi (ent (Dh s.1 r c) c c)
 (J1 (Dh s.1 r c) c x,J1 (Dh s.2 r c) c x)
def Ny (n c:Nat) (s:Tab×Tab):Option (Tab×Tab):=(Lg s.1 c (n - c) c).map fun r=>Ge c n (Jn c r s)
def gj (n:Nat) (a:Tab):Nat→Option (Tab×Tab)
 | 0=>some (a,Bs n)
 | c+1=>(gj n a c).bind (Ny n c)
def sm:Nat→(Nat→UInt8)→UInt8
 | 0,_=>0
 | n+1,f=>sm n f ^^^ f n
theorem Bw {n:Nat} {f g:Nat→UInt8} (h:∀ k,k < n→f k=g k):sm n f=sm n g:=by
 induction n with
 | zero=>rfl
 | succ n ih=>simp only [sm];rw [ih (fun k hk=>h k ω),h n ω]
end Go.Proofs.YtmbndhciflilbaaGreatDoor.F
namespace Go.Proofs.YtmbndhciflilbaaGreatDoor.F
set_option linter.unusedVariables false
set_option linter.unusedSimpArgs false
theorem Pe:∀ n:Nat,sm n (fun _=>0)=0
 | 0=>rfl
 | n+1=>by simp [sm,Pe n]
theorem A8c {n:Nat} {f:Nat→UInt8} (h:∀ k,k < n→f k=0):sm n f=0:=by rw [Bw h,Pe]
theorem W6 {f g:Nat→UInt8} : ∀ n:Nat,sm n (fun k=>f k ^^^ g k)=sm n f ^^^ sm n g
 | 0=>by simp [sm]
 | n+1=>by simp only [sm,W6 n];exact Adr _ _ _ _
theorem A15 {f:Nat→UInt8} (c:UInt8):∀ n:Nat,sm n (fun k=>gm c (f k))=gm c (sm n f)
 | 0=>by simp [sm]
 | n+1=>by simp only [sm,A15 c n,W4]
theorem Mv {f:Nat→UInt8} (c:UInt8):∀ n:Nat,sm n (fun k=>gm (f k) c)=gm (sm n f) c
 | 0=>by simp [sm]
 | n+1=>by simp only [sm,Mv c n,W2]
theorem Re {f:Nat→Nat→UInt8} (m:Nat):∀ n:Nat,sm n (fun i=>sm m fun j=>f i j)=sm m fun j=>sm n fun i=>f i j
 | 0=>by simp [sm,Pe]
 | n+1=>by simp only [sm,Re m n,W6]
theorem A1g {f:Nat→UInt8} {i n:Nat} (hi:i < n) (h:∀ k,k < n→k≠i→f k=0):sm n f=f i:=by
 induction n with
 | zero=>omega
 | succ n ih =>
  simp only [sm]
  by_cases e:i=n
  ·subst e
   rw [A8c (fun k hk=>h k ω ω),UInt8.zero_xor]
  ·rw [ih ω (fun k hk=>h k ω),h n ω (Ne.symm e),UInt8.xor_zero]
def i1 (i j:Nat):UInt8:=if i=j then 1 else 0
theorem Yy {f:Nat→UInt8} {i n:Nat} (hi:i < n):sm n (fun k=>gm (i1 i k) (f k))=f i:=by
 rw [A1g hi (fun k _ hk=>by simp [i1,Ne.symm hk])]
 simp [i1]
theorem sm_i1' {f:Nat→UInt8} {i n:Nat} (hi:i < n):sm n (fun k=>gm (f k) (i1 k i))=f i:=by
 rw [A1g hi (fun k _ hk=>by simp [i1,hk])]
 simp [i1]
def mm (n:Nat) (A B:Nat→Nat→UInt8) (i j:Nat):UInt8:=sm n fun k=>gm (A i k) (B k j)
theorem Ads (n m:Nat) (A B C:Nat→Nat→UInt8) (i j:Nat):mm m (mm n A B) C i j=mm n A (mm m B C) i j:=by
 simp only [mm]
 have e1:∀ k,gm (sm n fun l=>gm (A i l) (B l k)) (C k j)=sm n fun l=>gm (gm (A i l) (B l k)) (C k j):=fun k=>(Mv _ _).symm
 have e2:∀ l,gm (A i l) (sm m fun k=>gm (B l k) (C k j))=sm m fun k=>gm (A i l) (gm (B l k) (C k j)):=fun k=>(A15 _ _).symm
 simp only [e1,e2]
 rw [Re]
 exact Bw fun l _=>Bw fun k _=>Cv _ _ _
theorem Adt {n:Nat} {A A' B B':Nat→Nat→UInt8} {i j:Nat} (h1:∀ k,k < n→A i k=A' i k) (h2:∀ k,k < n→B k j=B' k j):mm n A B i j=mm n A' B' i j :=
 Bw fun k hk=>by rw [h1 k hk,h2 k hk]
structure Sq (n:Nat) (M:Tab):Prop where
 len:M.length=n
 row:∀ i,i < n→(rowN M i).length=n
theorem Z3 {M:Tab} {k:Nat} {x:List UInt8} (hk:k < M.length) (i:Nat):rowN (M.set k x) i=if i=k then x else rowN M i:=by
 unfold rowN
 rw [List.getElem?_set]
 by_cases h:k=i
 ·subst h;simp [hk]
 ·rw [if_neg h,if_neg (Ne.symm h)]
theorem Sq.set {n:Nat} {M:Tab} (h:Sq n M) {k:Nat} {x:List UInt8} (hk:k < n) (hx:x.length=n):Sq n (M.set k x):=by
 refine ⟨by simp [h.len],fun i hi=> ?_⟩
 rw [Z3 (by rw [h.len];exact hk)]
 split
 ·exact hx
 ·exact h.row i hi
theorem Uk {n:Nat} {M:Tab} (h:Sq n M) {k:Nat} {x:List UInt8} (hk:k < n) (i j:Nat):ent (M.set k x) i j=if i=k then x[j]?.getD 0 else ent M i j:=by
 unfold ent
 rw [Z3 (by rw [h.len];exact hk)]
 split<;>rfl
theorem W7 {n:Nat} {M:Tab} (h:Sq n M) {i j:Nat} (hi:i < n) (hj:j < n):(rowN M i)[j]? = some (ent M i j):=by
 unfold ent
 rw [List.getElem?_eq_getElem (by rw [h.row i hi];exact hj)]
 rfl
theorem Sq.swap {n:Nat} {M:Tab} (h:Sq n M) {r c:Nat} (hr:r < n) (hc:c < n):Sq n (Dh M r c):=(h.set hr (h.row c hc)).set hc (h.row r hr)
theorem Rj {n:Nat} {M:Tab} (h:Sq n M) {r c:Nat} (hr:r < n) (hc:c < n) (i j:Nat):ent (Dh M r c) i j=ent M (if i=c then r else if i=r then c else i) j:=by
 unfold Dh
 rw [Uk (h.set hr (h.row c hc)) hc,Uk h hr]
 by_cases h1:i=c
 ·subst h1;simp;rfl
 ·by_cases h2:i=r
  ·subst h2;simp [h1];rfl
  ·simp [h1,h2]
theorem Sq.scale {n:Nat} {M:Tab} (h:Sq n M) {c:Nat} (hc:c < n) (x:UInt8):Sq n (J1 M c x):=h.set hc (by simp [Cq,h.row c hc])
theorem Lj {n:Nat} {M:Tab} (h:Sq n M) {c:Nat} (hc:c < n) (x:UInt8) (i:Nat) {j:Nat} (hj:j < n):ent (J1 M c x) i j=if i=c then gm (ent M c j) x else ent M i j:=by
 unfold J1
 rw [Uk h hc]
 split
 ·simp [Cq,W7 h hc hj]
 ·rfl
theorem Sq.add {n:Nat} {M:Tab} (h:Sq n M) {k c:Nat} (hk:k < n) (hc:c < n) (y:UInt8):Sq n (M.set k (addL (rowN M k) (rowN M c) y)):=h.set hk (by simp [addL,h.row k hk,h.row c hc])
theorem M0 {n:Nat} {M:Tab} (h:Sq n M) {k c:Nat} (hk:k < n) (hc:c < n) (y:UInt8) (i:Nat) {j:Nat} (hj:j < n) :
  ent (M.set k (addL (rowN M k) (rowN M c) y)) i j=if i=k then ent M k j ^^^ gm (ent M c j) y else ent M i j:=by
 rw [Uk h hk]
 split
 ·simp [addL,List.getElem?_zipWith,W7 h hk hj,W7 h hc hj]
 ·rfl
def dt (n:Nat) (M:Tab) (v:Nat→UInt8) (i:Nat):UInt8:=sm n fun k=>gm (ent M i k) (v k)
section
variable {n:Nat} {M:Tab} (h:Sq n M) (v:Nat→UInt8)
include h
theorem Um {r c:Nat} (hr:r < n) (hc:c < n) (i:Nat):dt n (Dh M r c) v i=dt n M v (if i=c then r else if i=r then c else i) :=
 Bw fun k hk=>by rw [Rj h hr hc]
theorem A39 {c:Nat} (hc:c < n) (x:UInt8) (i:Nat):dt n (J1 M c x) v i=if i=c then gm (dt n M v c) x else dt n M v i:=by
 by_cases e:i=c
 ·rw [if_pos e,dt,dt,←Mv]
  refine Bw fun k hk=> ?_
  rw [Lj h hc x i hk,if_pos e,Cv,Cv,Dg x]
 ·rw [if_neg e]
  refine Bw fun k hk=> ?_
  rw [Lj h hc x i hk,if_neg e]
theorem A6e {k c:Nat} (hk:k < n) (hc:c < n) (y:UInt8) (i:Nat):dt n (M.set k (addL (rowN M k) (rowN M c) y)) v i=if i=k then dt n M v k ^^^ gm (dt n M v c) y else dt n M v i:=by
 by_cases e:i=k
 ·rw [if_pos e,dt,dt,dt,←Mv,←W6]
  refine Bw fun j hj=> ?_
  rw [M0 h hk hc y i hj,if_pos e,W2,Cv,Cv,Dg y]
 ·rw [if_neg e]
  refine Bw fun j hj=> ?_
  rw [M0 h hk hc y i hj,if_neg e]
theorem A3a {r c:Nat} (hr:r < n) (hc:c < n) (h0:∀ i,i < n→dt n (Dh M r c) v i=0):∀ i,i < n→dt n M v i=0:=by
 intro i hi
 by_cases e:i=r
 ·subst e;have:=h0 c hc;rw [Um h v hr hc,if_pos rfl] at this;exact this
 ·by_cases e2:i=c
  ·subst e2
   have:=h0 r hr
   rw [Um h v hr hc] at this
   by_cases e3:r=i
   ·exact absurd e3.symm e
   ·rwa [if_neg e3,if_pos rfl] at this
  ·have:=h0 i hi;rwa [Um h v hr hc,if_neg e2,if_neg e] at this
theorem Z4 {c:Nat} (hc:c < n) {x:UInt8} (hx:x≠0) (h0:∀ i,i < n→dt n (J1 M c x) v i=0):∀ i,i < n→dt n M v i=0:=by
 intro i hi
 have:=h0 i hi
 rw [A39 h v hc] at this
 by_cases e:i=c
 ·rw [if_pos e] at this
  subst e
  exact (Ju this).resolve_right hx
 ·rwa [if_neg e] at this
theorem A8d {k c:Nat} (hk:k < n) (hc:c < n) (hkc:k≠c) {y:UInt8} (h0:∀ i,i < n→dt n (M.set k (addL (rowN M k) (rowN M c) y)) v i=0):∀ i,i < n→dt n M v i=0:=by
 intro i hi
 have hcz:=h0 c hc
 rw [A6e h v hk hc,if_neg (Ne.symm hkc)] at hcz
 have:=h0 i hi
 rw [A6e h v hk hc] at this
 by_cases e:i=k
 ·rw [if_pos e,hcz,Ra,UInt8.xor_zero] at this
  rw [e];exact this
 ·rwa [if_neg e] at this
end
end Go.Proofs.YtmbndhciflilbaaGreatDoor.F
namespace Go.Proofs.YtmbndhciflilbaaGreatDoor.F
set_option linter.unusedVariables false
set_option linter.unusedSimpArgs false
def Cols (n c:Nat) (L:Tab):Prop:= ∀ i j,i < n→j < c→ent L i j=i1 i j
structure Ops (n:Nat) (a:Nat→Nat→UInt8) (s:Tab×Tab):Prop where
 sqL:Sq n s.1
 sqR:Sq n s.2
 prod:∀ i j,i < n→j < n→ent s.1 i j=dt n s.2 (fun k=>a k j) i
 kerL:∀ v,(∀ i,i < n→dt n s.1 v i=0)→∀ i,i < n→sm n (fun k=>gm (a i k) (v k))=0
 kerR:∀ v,(∀ i,i < n→dt n s.2 v i=0)→∀ i,i < n→v i=0
section
variable {n:Nat} {a:Nat→Nat→UInt8} {s:Tab×Tab}
theorem Ops.swap (o:Ops n a s) {r c:Nat} (hr:r < n) (hc:c < n):Ops n a (Dh s.1 r c,Dh s.2 r c) where
 sqL:=o.sqL.swap hr hc
 sqR:=o.sqR.swap hr hc
 prod:=fun i j hi hj=>by
  simp only
  rw [Rj o.sqL hr hc,Um o.sqR _ hr hc]
  split
  ·exact o.prod _ _ hr hj
  ·split
   ·exact o.prod _ _ hc hj
   ·exact o.prod _ _ hi hj
 kerL:=fun v h=>o.kerL v (A3a o.sqL v hr hc h)
 kerR:=fun v h=>o.kerR v (A3a o.sqR v hr hc h)
theorem Ops.scale (o:Ops n a s) {c:Nat} (hc:c < n) {x:UInt8} (hx:x≠0):Ops n a (J1 s.1 c x,J1 s.2 c x) where
 sqL:=o.sqL.scale hc x
 sqR:=o.sqR.scale hc x
 prod:=fun i j hi hj=>by
  simp only
  rw [Lj o.sqL hc x i hj,A39 o.sqR _ hc]
  split
  ·rw [o.prod _ _ hc hj]
  ·exact o.prod _ _ hi hj
 kerL:=fun v h=>o.kerL v (Z4 o.sqL v hc hx h)
 kerR:=fun v h=>o.kerR v (Z4 o.sqR v hc hx h)
theorem Ops.add (o:Ops n a s) {k c:Nat} (hk:k < n) (hc:c < n) (hkc:k≠c) (y:UInt8):Ops n a (s.1.set k (addL (rowN s.1 k) (rowN s.1 c) y),s.2.set k (addL (rowN s.2 k) (rowN s.2 c) y)) where
 sqL:=o.sqL.add hk hc y
 sqR:=o.sqR.add hk hc y
 prod:=fun i j hi hj=>by
  simp only
  rw [M0 o.sqL hk hc y i hj,A6e o.sqR _ hk hc]
  split
  ·rw [o.prod _ _ hk hj,o.prod _ _ hc hj]
  ·exact o.prod _ _ hi hj
 kerL:=fun v h=>o.kerL v (A8d o.sqL v hk hc hkc h)
 kerR:=fun v h=>o.kerR v (A8d o.sqR v hk hc hkc h)
theorem W8 {L:Tab} {c:Nat} : ∀ {f r q:Nat},Lg L c f r=some q→r≤q∧q < r+f∧ent L q c≠0
 | 0,r,q,h=>by cases h
 | f+1,r,q,h=>by
  unfold Lg at h
  split at h
  ·cases h;exact ⟨Nat.le_refl _,ω, ‹_›⟩
  ·obtain ⟨h1,h2,h3⟩:=W8 h;exact ⟨ω,ω,h3⟩
theorem W9 {L:Tab} {c:Nat} : ∀ {f r:Nat},Lg L c f r=none→∀ q,r≤q→q < r+f→ent L q c=0
 | 0,r,_,q,h1,h2=>by omega
 | f+1,r,h,q,h1,h2=>by
  unfold Lg at h
  split at h
  ·cases h
  ·rename_i h0
   by_cases e:q=r
   ·subst e;simpa using h0
   ·exact W9 h q ω ω
theorem Cols.swap {L:Tab} (h:Sq n L) {c r:Nat} (hL:Cols n c L) (hc:c < n) (hr:r < n) (hcr:c≤r):Cols n c (Dh L r c):=by
 intro i j hi hj
 rw [Rj h hr hc]
 by_cases e:i=c
 ·rw [if_pos e,hL r j hr hj,i1,i1,if_neg ω,if_neg ω]
 ·by_cases e2:i=r
  ·rw [if_neg e,if_pos e2,hL c j hc hj,i1,i1,if_neg ω,if_neg ω]
  ·rw [if_neg e,if_neg e2,hL i j hi hj]
theorem Cols.scale {L:Tab} (h:Sq n L) {c:Nat} (hL:Cols n c L) (hc:c < n) (x:UInt8):Cols n c (J1 L c x):=by
 intro i j hi hj
 rw [Lj h hc x i ω]
 by_cases e:i=c
 ·rw [if_pos e,hL c j hc hj,i1,i1,if_neg ω,if_neg ω,Ra]
 ·rw [if_neg e,hL i j hi hj]
theorem Adu (o:Ops n a s) {c r:Nat} (hc:c < n) (hr:r < n) (hcr:c≤r) (hL:Cols n c s.1) (hne:ent s.1 r c≠0):Ops n a (Jn c r s)∧Cols n c (Jn c r s).1∧ent (Jn c r s).1 c c=1:=by
 have o1:=o.swap hr hc
 have e:ent (Dh s.1 r c) c c=ent s.1 r c:=by rw [Rj o.sqL hr hc,if_pos rfl]
 have hx:gi (ent (Dh s.1 r c) c c)≠0:=by rw [e];exact Adq hne
 refine ⟨o1.scale hc hx,(hL.swap o.sqL hc hr hcr).scale o1.sqL hc _,?_⟩
 show ent (J1 (Dh s.1 r c) c (gi (ent (Dh s.1 r c) c c))) c c=1
 rw [Lj o1.sqL hc _ c hc,if_pos rfl]
 exact W5 (by simp only;rw [e];exact hne)
theorem Adv {c:Nat} (hc:c < n):∀ m,m≤n→∀ s:Tab×Tab,Ops n a s→Cols n c s.1→ent s.1 c c=1 →
  Ops n a (Ge c m s)∧Cols n c (Ge c m s).1∧(∀ j,j < n→ent (Ge c m s).1 c j=ent s.1 c j)∧∀ k,k < m→k≠c→ent (Ge c m s).1 k c=0:=by
 intro m
 induction m with
 | zero=>intro _ s o hL h1;exact ⟨o,hL,fun _ _=>rfl,fun k hk=>by omega⟩
 | succ m ih =>
  intro hm s o hL h1
  obtain ⟨o',hL',hr,hz⟩:=ih ω s o hL h1
  simp only [Ge]
  generalize hs:Ge c m s=t at o' hL' hr hz ⊢
  have h1':ent t.1 c c=1:=by rw [hr c hc];exact h1
  unfold A2q
  by_cases e:m=c
  ·rw [if_pos e]
   exact ⟨o',hL',hr,fun k hk hkc=>hz k ω hkc⟩
  ·rw [if_neg e]
   have hm':m < n:=by omega
   refine ⟨o'.add hm' hc e _,fun i j hi hj=> ?_,fun j hj=> ?_,fun k hk hkc=> ?_⟩
   ·simp only
    rw [M0 o'.sqL hm' hc _ i ω]
    split
    ·rename_i e2
     rw [hL' c j hc hj,hL' m j hm' hj,e2]
     have:i1 c j=0:=by rw [i1,if_neg ω]
     rw [this,Ra,UInt8.xor_zero]
    ·exact hL' i j hi hj
   ·simp only
    rw [M0 o'.sqL hm' hc _ c hj,if_neg (Ne.symm e)]
    exact hr j hj
   ·simp only
    rw [M0 o'.sqL hm' hc _ k hc]
    split
    ·rw [h1',Qb,UInt8.xor_self]
    ·exact hz k ω hkc
theorem Cols.next {L:Tab} {c:Nat} (hL:Cols n c L) (h1:ent L c c=1) (hz:∀ k,k < n→k≠c→ent L k c=0):Cols n (c+1) L:=by
 intro i j hi hj
 by_cases e:j=c
 ·subst e
  by_cases e2:i=j
  ·subst e2;rw [h1];simp [i1]
  ·rw [hz i hi e2,i1,if_neg e2]
 ·exact hL i j hi ω
theorem A6f (o:Ops n a s) {c:Nat} (hc:c < n) (hL:Cols n c s.1) {t:Tab×Tab} (h:Ny n c s=some t):Ops n a t∧Cols n (c+1) t.1:=by
 unfold Ny at h
 cases hf:Lg s.1 c (n - c) c with
 | none=>rw [hf] at h;cases h
 | some r =>
  rw [hf] at h
  cases h
  obtain ⟨h1,h2,h3⟩:=W8 hf
  obtain ⟨o1,c1,e1⟩:=Adu o hc ω h1 hL h3
  obtain ⟨o2,c2,e2,z2⟩:=Adv hc n (Nat.le_refl _) _ o1 c1 e1
  exact ⟨o2,c2.next (by rw [e2 c hc];exact e1) z2⟩
end
theorem Aad (n:Nat):Sq n (Bs n):=by
 refine ⟨by simp [Bs],fun i hi=> ?_⟩
 simp [rowN,Bs,List.getElem?_range hi,Cu]
theorem H9 {n i j:Nat} (hi:i < n) (hj:j < n):ent (Bs n) i j=i1 i j:=by
 simp only [ent,rowN,Bs,List.getElem?_map,List.getElem?_range hi,Option.map_some,Option.getD_some,Cu,List.getElem?_set,List.length_replicate,List.getElem?_replicate,i1]
 by_cases e:i=j
 ·subst e;simp [hi]
 ·simp [e,hj]
theorem Aae {n:Nat} {M:Tab} (h:Sq n M):Ops n (ent M) (M,Bs n) where
 sqL:=h
 sqR:=Aad n
 prod:=fun i j hi hj=>by
  simp only [dt]
  have:∀ k,k < n→gm (ent (Bs n) i k) (ent M k j)=gm (i1 i k) (ent M k j):=fun k hk=>by rw [H9 hi hk]
  rw [Bw this,Yy hi]
 kerL:=fun v h=>h
 kerR:=fun v h i hi=>by
  have:=h i hi
  simp only [dt] at this
  rw [Bw (g:=fun k=>gm (i1 i k) (v k)) (fun k hk=>by rw [H9 hi hk]),Yy hi] at this
  exact this
theorem A1h {n:Nat} {M:Tab} (h:Sq n M):∀ c,c≤n→∀ s,gj n M c=some s→Ops n (ent M) s∧Cols n c s.1:=by
 intro c
 induction c with
 | zero=>intro _ s hs;cases hs;exact ⟨Aae h,fun i j _ hj=>by omega⟩
 | succ c ih =>
  intro hc s hs
  simp only [gj] at hs
  cases hg:gj n M c with
  | none=>rw [hg] at hs;cases hs
  | some t =>
   rw [hg] at hs
   obtain ⟨o,hL⟩:=ih ω t hg
   exact A6f o ω hL hs
theorem A8a {n:Nat} {M:Tab} (h:Sq n M) {s:Tab×Tab} (hs:gj n M n=some s):∀ i j,i < n→j < n→mm n (ent s.2) (ent M) i j=i1 i j:=by
 obtain ⟨o,hL⟩:=A1h h n (Nat.le_refl _) s hs
 intro i j hi hj
 rw [←hL i j hi hj,o.prod i j hi hj]
 rfl
theorem gj_sq {n:Nat} {M:Tab} (h:Sq n M) {s:Tab×Tab} (hs:gj n M n=some s):Sq n s.2:=(A1h h n (Nat.le_refl _) s hs).1.sqR
theorem Adb {n:Nat} {M:Tab} (h:Sq n M) {s:Tab×Tab} (hs:gj n M n=some s):∀ i j,i < n→j < n→mm n (ent M) (ent s.2) i j=i1 i j:=by
 obtain ⟨o,hL⟩:=A1h h n (Nat.le_refl _) s hs
 have hl:=A8a h hs
 intro i j hi hj
 have key:∀ i,i < n→mm n (ent M) (ent s.2) i j ^^^ i1 i j=0:=by
  refine o.kerR (fun i=>mm n (ent M) (ent s.2) i j ^^^ i1 i j) ?_
  intro i hi
  show sm n (fun k=>gm (ent s.2 i k) (mm n (ent M) (ent s.2) k j ^^^ i1 k j))=0
  have e:∀ k,k < n→gm (ent s.2 i k) (mm n (ent M) (ent s.2) k j ^^^ i1 k j)=gm (ent s.2 i k) (mm n (ent M) (ent s.2) k j) ^^^ gm (ent s.2 i k) (i1 k j):=fun k _=>W4 _ _ _
  rw [Bw e,W6,sm_i1' hj]
  have e2:sm n (fun k=>gm (ent s.2 i k) (mm n (ent M) (ent s.2) k j))=mm n (ent s.2) (mm n (ent M) (ent s.2)) i j:=rfl
  rw [e2,←Ads,Adt (A':=i1) (B':=ent s.2) (fun k hk=>hl i k hi hk) (fun _ _=>rfl)]
  rw [show mm n i1 (ent s.2) i j=ent s.2 i j from Yy hi,UInt8.xor_self]
 exact Mz.1 (key i hi)
theorem A3b {n:Nat} {M:Tab} (h:Sq n M) (hn:gj n M n=none):∃ v:Nat→UInt8,(∃ c,c < n∧v c≠0)∧∀ i,i < n→sm n (fun k=>gm (ent M i k) (v k))=0:=by
 suffices H:∀ c,c≤n→gj n M c=none→∃ v:Nat→UInt8,(∃ c,c < n∧v c≠0)∧∀ i,i < n→sm n (fun k=>gm (ent M i k) (v k))=0 from H n (Nat.le_refl _) hn
 intro c
 induction c with
 | zero=>intro _ h0;cases h0
 | succ c ih =>
  intro hc h0
  simp only [gj] at h0
  cases hg:gj n M c with
  | none=>exact ih ω hg
  | some t =>
   rw [hg] at h0
   obtain ⟨o,hL⟩:=A1h h c ω t hg
   simp only [Option.bind_some,Ny,Option.map_eq_none_iff] at h0
   have hz:=W9 h0
   refine ⟨fun k=>if k < c then ent t.1 k c else if k=c then 1 else 0,⟨c,ω,μ⟩,?_⟩
   refine o.kerL _ ?_
   intro i hi
   have e:∀ k,k < n→gm (ent t.1 i k) (if k < c then ent t.1 k c else if k=c then 1 else 0)=gm (if k < c then i1 i k else 0) (ent t.1 k c) ^^^ (if k=c then ent t.1 i c else 0):=by
    intro k hk
    by_cases h1:k < c
    ·have:¬k=c:=by omega
     simp [h1,this,hL i k hi h1]
    ·by_cases h2:k=c
     ·simp [h2]
     ·simp [h1,h2]
   show sm n (fun k=>gm (ent t.1 i k) (if k < c then ent t.1 k c else if k=c then 1 else 0))=0
   rw [Bw e,W6]
   have e2:sm n (fun k=>if k=c then ent t.1 i c else 0)=ent t.1 i c:=by
    rw [A1g (i:=c) ω (fun k _ hk=>by simp [hk])];simp
   rw [e2]
   by_cases hic:i < c
   ·rw [A1g hi (fun k _ hk=>by by_cases h1:k < c<;>simp [h1,i1,Ne.symm hk])]
    simp [hic,i1]
   ·rw [A8c (fun k hk=>by
     by_cases h1:k < c
     ·have:¬i=k:=by omega
      simp [h1,i1,this]
     ·simp [h1]),UInt8.zero_xor]
    exact hz i ω ω
theorem Vm {n:Nat} {M:Tab} (h:Sq n M) (hk:∀ v:Nat→UInt8,(∀ i,i < n→sm n (fun k=>gm (ent M i k) (v k))=0)→∀ i,i < n→v i=0):∃ s,gj n M n=some s:=by
 cases hg:gj n M n with
 | some s=>exact ⟨s,rfl⟩
 | none =>
  obtain ⟨v,⟨c,hc,hv⟩,h0⟩:=A3b h hg
  exact (hv (hk v h0 c hc)).elim
end Go.Proofs.YtmbndhciflilbaaGreatDoor.F
namespace Go.Proofs.YtmbndhciflilbaaGreatDoor.F
set_option linter.unusedVariables false
set_option linter.unusedSimpArgs false
def off (m:Nat→Bool) (r:Nat):Nat→Bool:=fun k=>m k && !(k == r)
def dn (n:Nat):List (Nat→UInt8)→(Nat→Bool)→UInt8
 | [],_=>1
 | v :: vs,m=>sm n fun r=>if m r=true then gm (v r) (dn n vs (off m r)) else 0
theorem A9x:∀ (n:Nat) (l:List Nat),l.Nodup→(∀ x∈l,x < n)→l.length≤n:=by
 intro n
 induction n with
 | zero =>
  intro l _ h
  cases l with
  | nil=>simp
  | cons a l=>have:=h a μ;omega
 | succ n ih =>
  intro l hn h
  by_cases hm:n∈l
  ·have:=ih (l.erase n) (hn.erase n) (fun x hx=>by
    have h1:=h x (List.mem_of_mem_erase hx)
    have h2:x≠n:=fun e=>by subst e;exact (List.Nodup.not_mem_erase hn) hx
    omega)
   rw [List.length_erase_of_mem hm] at this
   omega
  ·have:=ih l hn (fun x hx=>by
    have h1:=h x hx
    have h2:x≠n:=fun e=>by subst e;exact hm hx
    omega)
   omega
def sub (A:Nat→Nat→UInt8) (rows cols:List Nat):Tab:=rows.map fun r=>cols.map (A r)
def sl:List UInt8→UInt8
 | []=>0
 | x :: l=>x ^^^ sl l
theorem A8e:∀ (l:List UInt8) (x:UInt8),sl (l ++ [x])=sl l ^^^ x
 | [],x=>by simp [sl]
 | y :: l,x=>by simp only [List.cons_append,sl,A8e l x,UInt8.xor_assoc]
theorem sl_sm (l:List UInt8):∀ t,t≤l.length→sm t (fun i=>l[i]?.getD 0)=sl (l.take t):=by
 intro t
 induction t with
 | zero=>intro _;rfl
 | succ t ih =>
  intro ht
  rw [List.take_succ_eq_append_getElem ω,A8e,←ih ω]
  simp only [sm,List.getElem?_eq_getElem (by omega:t < l.length),Option.getD_some]
end Go.Proofs.YtmbndhciflilbaaGreatDoor.F
namespace Go.Proofs.YtmbndhciflilbaaGreatDoor.F
set_option linter.unusedVariables false
set_option linter.unusedSimpArgs false
theorem A6g {α:Type} (f g:α→UInt8):∀ l:List α,sl (l.map fun x=>f x ^^^ g x)=sl (l.map f) ^^^ sl (l.map g)
 | []=>by simp [sl]
 | x :: l=>by simp only [List.map_cons,sl,A6g f g l];exact Adr _ _ _ _
theorem A1j {α:Type} (c:UInt8) (f:α→UInt8):∀ l:List α,sl (l.map fun x=>gm c (f x))=gm c (sl (l.map f))
 | []=>by simp [sl]
 | x :: l=>by simp only [List.map_cons,sl,A1j c f l,W4]
theorem Wa {α:Type} {f g:α→UInt8} : ∀ {l:List α},(∀ x∈l,f x=g x)→sl (l.map f)=sl (l.map g)
 | [],_=>rfl
 | x :: l,h=>by simp only [List.map_cons,sl];rw [h x μ,Wa (fun y hy=>h y (by simp [hy]))]
theorem A8f {α:Type} {f:α→UInt8} : ∀ {l:List α},(∀ x∈l,f x=0)→sl (l.map f)=0
 | [],_=>rfl
 | x :: l,h=>by simp only [List.map_cons,sl];rw [h x μ,A8f (fun y hy=>h y (by simp [hy])),UInt8.xor_zero]
theorem N0 {a b:UInt8} (h:a≠b):a ^^^ b≠0:=fun e=>h (Mz.1 e)
theorem Wb (a b c:UInt8):(a ^^^ b) ^^^ (b ^^^ c)=a ^^^ c:=by
 rw [UInt8.xor_assoc,←UInt8.xor_assoc b,UInt8.xor_self,UInt8.zero_xor]
theorem gi_sum {p q:UInt8} (hp:p≠0) (hq:q≠0):gi p ^^^ gi q=gm (p ^^^ q) (gm (gi p) (gi q)):=by
 rw [W2,←Cv,W5 hp,Qb,Dg (gi p),←Cv,W5 hq,Qb,UInt8.xor_comm]
def cs (l:List (UInt8×UInt8)) (x:UInt8):UInt8:=sl (l.map fun p=>gm p.2 (gi (x ^^^ p.1)))
theorem cauchy:∀ (n:Nat) (l:List (UInt8×UInt8)) (xs:List UInt8),l.length=n→n≤xs.length→xs.Nodup→(l.map Prod.fst).Nodup→(∀ x∈xs,∀ p∈l,x≠p.1)→(∀ x∈xs,cs l x=0)→∀ p∈l,p.2=0:=by
 intro n
 induction n with
 | zero=>intro l xs hl _ _ _ _ _ p hp;rw [List.length_eq_zero_iff.1 hl] at hp;cases hp
 | succ n ih =>
  intro l xs hl hx hxn hyn hne h0
  match l,hl with
  | (y0,v0) :: l',hl =>
   match xs,hx with
   | x0 :: xs',hx =>
    simp only [List.length_cons] at hl hx
    simp only [List.map_cons,List.nodup_cons] at hxn hyn
    have hyy:∀ p∈l',p.1≠y0:=fun p hp e=>hyn.1 (e ▸ List.mem_map_of_mem hp)
    have T:∀ x∈x0 :: xs',sl (l'.map fun p=>gm (gm p.2 (p.1 ^^^ y0)) (gi (x ^^^ p.1)))=v0 ^^^ sl (l'.map fun p=>p.2):=by
     intro x hx
     have h1:gm (x ^^^ y0) (cs ((y0,v0) :: l') x)=0:=by rw [h0 x hx,A1f]
     have hx0:x ^^^ y0≠0:=N0 (hne x hx (y0,v0) μ)
     simp only [cs,List.map_cons,sl,W4] at h1
     rw [Dg v0,←Cv,W5 hx0,Qb,←A1j] at h1
     have e:∀ p∈l',gm (x ^^^ y0) (gm p.2 (gi (x ^^^ p.1)))=p.2 ^^^ gm (gm p.2 (p.1 ^^^ y0)) (gi (x ^^^ p.1)):=by
      intro p hp
      have hxp:x ^^^ p.1≠0:=N0 (hne x hx p (by simp [hp]))
      rw [←Wb x p.1 y0,W2,Dg p.2 (gi _),←Cv,W5 hxp,Qb,←Cv,Dg (p.1 ^^^ y0),Dg (gm _ _) p.2,←Cv,Dg (gm p.2 _) (p.1 ^^^ y0),←Cv,Dg (p.1 ^^^ y0) p.2]
     rw [Wa e,A6g,←UInt8.xor_assoc] at h1
     exact (Mz.1 h1).symm
    have hz:∀ p∈l',p.2=0:=by
     have:=ih (l'.map fun p=>(p.1,gm (gm p.2 (p.1 ^^^ y0)) (gi (x0 ^^^ p.1)))) xs' (by simp;omega) ω hxn.2 (by simpa [List.map_map,Function.comp_def] using hyn.2) (by
      intro x hx p hp
      obtain ⟨q,hq,rfl⟩:=List.mem_map.1 hp
      exact hne x (by simp [hx]) q (by simp [hq])) (by
      intro x hx
      have e1:=T x (by simp [hx])
      have e2:=T x0 μ
      have e3:sl (l'.map fun p=>gm (gm p.2 (p.1 ^^^ y0)) (gi (x ^^^ p.1))) ^^^ sl (l'.map fun p=>gm (gm p.2 (p.1 ^^^ y0)) (gi (x0 ^^^ p.1)))=0:=by rw [e1,e2,UInt8.xor_self]
      rw [←A6g] at e3
      have hxx:x ^^^ x0≠0:=N0 fun e=>hxn.1 (e ▸ hx)
      have e4:∀ p∈l',gm (gm p.2 (p.1 ^^^ y0)) (gi (x ^^^ p.1)) ^^^ gm (gm p.2 (p.1 ^^^ y0)) (gi (x0 ^^^ p.1))=gm (x ^^^ x0) (gm (gm (gm p.2 (p.1 ^^^ y0)) (gi (x0 ^^^ p.1))) (gi (x ^^^ p.1))):=by
       intro p hp
       have a1:x ^^^ p.1≠0:=N0 (hne x (by simp [hx]) p (by simp [hp]))
       have a2:x0 ^^^ p.1≠0:=N0 (hne x0 μ p (by simp [hp]))
       rw [←W4,gi_sum a1 a2,show (x ^^^ p.1) ^^^ (x0 ^^^ p.1)=x ^^^ x0 by rw [UInt8.xor_comm x0,Wb]]
       rw [←Cv,Dg _ (x ^^^ x0),Cv,Cv (gm p.2 (p.1 ^^^ y0)),Dg (gi (x0 ^^^ p.1))]
      rw [Wa e4,A1j] at e3
      have e5:=(Ju e3).resolve_left hxx
      simp only [cs,List.map_map]
      exact e5)
     intro p hp
     have h2:=this _ (List.mem_map_of_mem hp)
     simp only at h2
     have a2:x0 ^^^ p.1≠0:=N0 (hne x0 μ p (by simp [hp]))
     exact (Ju ((Ju h2).resolve_right (Adq a2))).resolve_right (N0 (hyy p hp))
    intro p hp
    rcases List.mem_cons.1 hp with rfl|hp
    ·have:=h0 x0 μ
     simp only [cs,List.map_cons,sl] at this
     rw [A8f (fun p hp=>by rw [hz p hp,Ra]),UInt8.xor_zero] at this
     exact (Ju this).resolve_right (Adq (N0 (hne x0 μ (y0,v0) μ)))
    ·exact hz p hp
end Go.Proofs.YtmbndhciflilbaaGreatDoor.F
