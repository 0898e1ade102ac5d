/-
  Texts of a proof, as one: C22, C23, C24, C25, C20, C26, C21, D04, D05, C27, D06, F3.
-/
import Derived.Test.YtmbndhciflilbaaGreatDoorCA
import Derived.Test.YtmbndhciflilbaaGreatDoorXB
import Derived.Test.YtmbndhciflilbaaGreatDoorXRow
import Derived.Test.YtmbndhciflilbaaGreatDoorFA
namespace Go.Proofs.YtmbndhciflilbaaGreatDoor.X
open Go.RowKit F
set_option maxRecDepth 100000
set_option linter.unusedSimpArgs false
set_option linter.unusedVariables false
theorem A11 (l:List UInt8) (a b:Nat):(⟨l.toArray⟩:ByteArray).extract a b=⟨((l.take b).drop a).toArray⟩:=by
 apply ByteArray.ext
 apply Array.ext'
 rw [ByteArray.data_extract,Array.toList_extract]
 simp [List.drop_take]
@[simp] theorem Ej {P:Program} {t:TypeId} (ht:strT P t=true) {l:List UInt8} {lo hi:Option AV} :
  F9 P t (S l) lo hi none=(Bq l.length hi l.length).bind fun b=>(Bq b lo 0).map fun a=>S ((l.take b).drop a):=by
 simp only [F9,Lh ht,S]
 simp [ByteArray.size]
 cases Bq l.length hi l.length with
 | none=>rfl
 | some b =>
  simp only [Option.bind_some]
  cases Bq b lo 0 with
  | none=>rfl
  | some a =>
   simp
   exact A11 l a b
theorem As.Ad6 {P:Program} {f:FuncId} {args:List AV} {l:Tab} (hf:CSem P f args Heap.empty fun x h=>Own h x (l.map S)):As P f args (SL l) :=
 As.Ba (k:=2) (hf.mono fun x h ho=>ho.snap (fun _=>rfl))
@[simp] theorem Ack {P:Program} {t:TypeId} {x:UInt8} : binX P .neq t (B8 x) (.int .u8 0)=some (.bool (!decide (x=0))):=by
 have hx:((x.toNat:Int)=0)↔x=0:=by
  constructor
  ·intro h
   exact UInt8.toNat_inj.1 (by simpa using h)
  ·rintro rfl;rfl
 simp only [B8]
 rw [Vf ν ν,Ad7]
 by_cases h:x=0
 ·simp [h]
 ·have h1:¬((x.toNat:Int)=0):=fun e=>h (hx.1 e)
  have:¬x.toNat=0:=by omega
  simp [h,this]
def Fp (l:Tab):Prop:= ∀ x∈l,x.length=(l[0]?.getD []).length
instance (l:Tab):Decidable (Fp l):=by unfold Fp;exact inferInstance
theorem Agx (s:List UInt8) (l:Tab) (b:Nat) (h:Heap) (hg:h.get b=some [SL l]) (hp:0 < l.length):CSem Tryz.prog 144 [S s,.ptr b 0] h fun x h'=>x = .bool (decide (s.length≠(l[0]?.getD []).length))∧h'=h:=by
 refine CSem.body hm Tryz.func144 rfl κ κ (by simp [Tryz.ntmps144]) ?_
 have h0:l[0]? = some l[0]:=List.getElem?_eq_getElem hp
 simp [Tryz.f144,hg,hp,h0]
def IfInv (l:Tab) (b:Nat) (h0:Heap) (i:Nat) (r:Regs) (h:Heap):Prop :=
 i≤l.length∧h=h0∧rg r 0=SL l∧rg r 1 = .fn 144 [] [.ptr b 0]∧rg r 7 = .int .i64 l.length∧rg r 8 = .int .i64 i∧∀ x∈l.take i,x.length=(l[0]?.getD []).length
theorem Aa0 (l:Tab) (b:Nat) (h:Heap) (hg:h.get b=some [SL l]) (hl:l.length < 2 ^ 60):CSem Tryz.prog 166 [SL l,.fn 144 [] [.ptr b 0]] h fun x h'=>(∃ n:Int,x = .int .i64 n∧(0≤n↔¬Fp l))∧h'=h:=by
 refine CSem.body hm Tryz.func166 rfl κ κ (by simp [Tryz.ntmps166]) ?_
 simp [Tryz.f166]
 refine Ar (IfInv l b h) (l.length - ·) ?_ 0 ?_
 ·rintro i r h ⟨hi,rfl,g0,g1,g7,g8,ha⟩
  rcases Nat.lt_or_eq_of_le hi with hlt|heq
  ·have hr:l[i]? = some l[i]:=List.getElem?_eq_getElem hlt
   have hp:0 < l.length:=by omega
   have h0:l[0]? = some l[0]:=List.getElem?_eq_getElem hp
   simp [g0,g1,g7,g8,hlt,hr]
   refine (Agx l[i] l b h hg hp).use ?_
   by_cases he:l[i].length=l[0].length
   ·simp [h0,he,g8]
    exact ⟨i+1,ω,ω,rfl,by simp [g0],by simp [g1],by simp [g7],by simp [wrap64 (n:=(i:Int)+1) ω ω],Px ha hr (by rw [h0];exact he)⟩
   ·have:¬Fp l:=fun hE=>he (by have:=hE _ (List.getElem_mem hlt);rw [h0] at this;exact this)
    simp [h0,he,this]
  ·have:Fp l:=fun x hx=>ha x (by rw [heq,List.take_length];exact hx)
   simp [g0,g1,g7,g8,heq,this]
 ·exact ⟨Nat.zero_le _,rfl,μ,μ,μ,μ,μ⟩
theorem A12 (l:Tab) (b:Nat) (h:Heap) (hg:h.get b=some [SL l]) (hl:l.length < 2 ^ 60):CSem Tryz.prog 143 [SL l,.fn 144 [] [.ptr b 0]] h fun x h'=>x = .bool (decide (¬Fp l))∧h'=h:=by
 refine CSem.body hm Tryz.func143 rfl κ κ (by simp [Tryz.ntmps143]) ?_
 simp [Tryz.f143]
 refine (Aa0 l b h hg hl).then ?_
 rintro x h' ⟨⟨n,rfl,hn⟩,rfl⟩
 simp [hn]
theorem Aa1 (l:Tab) (hl:l.length < 2 ^ 60):As Tryz.prog 115 [SL l] (.bool (decide (Fp l))):=by
 refine As.Ba (k:=1) ?_
 refine CSem.body hm Tryz.func115 rfl κ κ (by simp [Tryz.ntmps115]) ?_
 have hg:(Heap.empty.alloc [SL l]).get 0=some [SL l]:=Heap.A9 _ _
 simp [Tryz.f115,hg]
 refine (A12 l 0 _ hg hl).use ?_
 simp
theorem Vn (l:Tab) (hl:l.length < 2 ^ 60) {h:Heap} {x:AV} (hx:snap h true 2 x=some (SL l)):CSem Tryz.prog 115 [x] h fun x' h'=>x' = .bool (decide (Fp l))∧h'=h:=(Aa1 l hl).call (k:=2) (by simp [hx])
def FtQ (l:Tab) (x:AV) (h:Heap):Prop:=(∃ b,x = .sl b 0 l.length l.length 1∧h.get b=some (l.map S))∨(l=[]∧(x = .nilSl∨x = .vec 0 []))
def Mt (P:Program) (f:FuncId) (args:List AV) (l:Tab):Prop:=CSem P f args Heap.empty (FtQ l)
section
variable {P:Program} {f:FuncId} {args args':List AV} {l:Tab} {h:Heap}
theorem FtQ.own {x:AV} (ho:Own h x (l.map S)):FtQ l x h:=by
 rcases ho with ⟨rfl,h0⟩|⟨b,rfl,hg⟩
 ·exact .inr ⟨by simpa using h0,.inl rfl⟩
 ·exact .inl ⟨b,μ,hg⟩
theorem Mt.Ad6 (hf:CSem P f args Heap.empty fun x h=>Own h x (l.map S)):Mt P f args l:=hf.mono fun x h=>FtQ.own
theorem FtQ.snap {x:AV} (hq:FtQ l x h) {al:Bool} {k:Nat} : X.snap h al (k+2) x=some (SL l):=by
 rcases hq with ⟨b,rfl,hg⟩|⟨rfl,rfl|rfl⟩
 ·exact F8 hg rfl (fun _=>rfl)
 ·rfl
 ·rfl
theorem FtQ.tup {x:AV} {e:Int} (hq:FtQ l x h):FrQ l e (.tup [x,.int .i64 e]) h:=by
 rcases hq with ⟨b,rfl,hg⟩|⟨rfl,rfl|rfl⟩
 ·exact .sl rfl hg
 ·exact .nil
 ·exact .vec
theorem Mt.pure (hf:Mt P f args l):As P f args (SL l):=As.Ba (k:=2) (hf.mono fun x h hq=>hq.snap)
theorem Mt.call (hf:Mt P f args' l) {k:Nat} (hs:mapL (X.snap h true k) args=some args') :
  CSem P f args h fun x' h'=>FtQ l x' h'∧h'=ownH h l:=by
 by_cases hl:l=[]
 ·subst hl
  exact (hf.pure.call hs).mono (by rintro x h' ⟨rfl,rfl⟩;exact ⟨.inr ⟨rfl,.inr rfl⟩,rfl⟩)
 ·refine (CSem.fresh (n:=1) (F:=fun b=> .sl b 0 l.length l.length 1) hs (Py.sl _ _ _) (A87 l) (hf.mono ?_)).mono ?_
  ·rintro x h (⟨b,rfl,hg⟩|⟨h0,_⟩)
   ·exact ⟨b,rfl,hg⟩
   ·exact (hl h0).elim
  ·rintro x h' ⟨rfl,rfl⟩
   exact ⟨.inl ⟨h.next,rfl,Heap.A9 _ _⟩,by simp [ownH,hl]⟩
end
def Ea (rows data:Tab):Tab:=rows.map fun row=>(Fh row data).getD []
def SpInv (rows data:Tab) (i:Nat) (r:Regs) (h:Heap):Prop :=
 i≤rows.length∧rg r 1=SL data∧rg r 10=SL rows∧rg r 11 = .int .i64 rows.length∧rg r 12 = .int .i64 i∧Own h (rg r 5) ((Ea (rows.take i) data).map S)
theorem A13 (rows data:Tab) (hr:rows.length < 2 ^ 40) (hrr:∀ x∈rows,x.length < 2 ^ 40) (hd:data.length < 2 ^ 40) (hdd:∀ x∈data,x.length < 2 ^ 40):Mt Tryz.prog 117 [SL rows,SL data] (Ea rows data):=by
 refine Mt.Ad6 ?_
 refine CSem.body hm Tryz.func117 rfl κ κ (by simp [Tryz.ntmps117]) ?_
 simp [Tryz.f117]
 refine Ar (SpInv rows data) (rows.length - ·) ?_ 0 ?_
 ·rintro i r h ⟨hi,g1,g10,g11,g12,ho⟩
  rcases Nat.lt_or_eq_of_le hi with hlt|heq
  ·have hx:rows[i]? = some rows[i]:=List.getElem?_eq_getElem hlt
   simp [g1,g10,g11,g12,hlt,hx]
   have hs:snap (h.alloc (rows[i].map B8)) true 2 (.sl h.next 0 rows[i].length rows[i].length 1)=some (BL rows[i]):=F8 (Heap.A9 _ _) rfl (fun _=>rfl)
   refine (A2n rows[i] data hd hdd hs).use ?_
   obtain ⟨n,hn⟩:=A9r (Fh rows[i] data) 1
   have ho1:Own (h.alloc (rows[i].map B8)) (rg r 5) ((Ea (rows.take i) data).map S):=ho.old fun b cs hb=>Heap.Ag hb
   obtain ⟨x',h',e,ho',hnx,hat,hk⟩:=H7 (P:=Tryz.prog) (t:=51) (xt:=51) κ ho1 (by simp [Ea];omega) (Jk ((Fh rows[i] data).getD []))
   simp at e
   simp [hn,Bt (P:=Tryz.prog) (t:=51) (xt:=51) κ,e,g1,g10,g11,g12]
   refine ⟨i+1,ω,ω,by simp [g1],by simp [g10],by simp [g11],by simp [wrap64 (n:=(i:Int)+1) ω ω],?_⟩
   rw [List.take_succ_eq_append_getElem hlt,Ea,List.map_append]
   simpa [Ea] using ho'
  ·rw [heq,List.take_length] at ho
   simp [g1,g10,g11,g12,heq]
   exact ho
 ·simp [SpInv,Own,Ea]
def Sm (l:Tab):Prop:=l.length < 2 ^ 40∧∀ x∈l,x.length < 2 ^ 40
theorem Vp (rows data:Tab) (h1:Sm rows) (h2:Sm data) {h:Heap} {x y:AV} (hx:snap h true 2 x=some (SL rows)) (hy:snap h true 2 y=some (SL data)) :
  CSem Tryz.prog 117 [x,y] h fun x' h'=>FtQ (Ea rows data) x' h'∧h'=ownH h (Ea rows data):=(A13 rows data h1.1 h1.2 h2.1 h2.2).call (k:=2) (by simp [hx,hy])
theorem gen_sm {k m:Int} (hM:GMay k m):Sm (genL k.toNat m.toNat):=by
 obtain ⟨h1,h2,h3,h4⟩:=hM
 exact ⟨by rw [Hr];omega,fun x hx=>by rw [Vg hx];omega⟩
def EncP (data:Tab) (m:Int):Prop:=GMay data.length m∧Fp data
instance (data:Tab) (m:Int):Decidable (EncP data m):=by unfold EncP;exact inferInstance
def encL (data:Tab) (m:Nat):Tab:=Ea (genL data.length m) data
def encR (data:Tab) (m:Int):Tab×Int:=if EncP data m then (encL data m.toNat,0) else ([],1)
theorem Aa2 (data:Tab) (m:Int) (h:Sm data):Jj Tryz.prog 104 [SL data,.int .i64 m] (encR data m).1 (encR data m).2:=by
 refine CSem.body hm Tryz.func104 rfl κ κ (by simp [Tryz.ntmps104]) ?_
 simp [Tryz.f104]
 refine (A2r _ _ _).use ?_
 by_cases hM:GMay data.length m
 rotate_left
 ·have:¬EncP data m:=fun h=>hM h.1
  simp [rL,genR,hM,encR,this,FrQ.nil]
 have hs:=gen_sm hM
 simp [rL,genR,hM]
 refine (Vn data (by have:=h.1;omega) μ).use ?_
 by_cases hE:Fp data
 rotate_left
 ·have:¬EncP data m:=fun h=>hE h.2
  simp [rL,hE,encR,this,FrQ.nil]
 have hP:EncP data m:=⟨hM,hE⟩
 simp [hE]
 refine (Vp (genL data.length m.toNat) data hs h μ μ).then ?_
 rintro x h' ⟨hq,rfl⟩
 simp [encR,hP]
 exact hq.tup
def IsP (k:Int) (l:Tab):Prop:=1≤k∧k≤l.length∧Fp l∧encR (l.take k.toNat) (l.length - k)=(l,0)
instance (k:Int) (l:Tab):Decidable (IsP k l):=by unfold IsP;exact inferInstance
theorem Sm.take {l:Tab} (h:Sm l) (n:Nat):Sm (l.take n):=⟨by have:=h.1;simp;omega,fun x hx=>h.2 x (List.mem_of_mem_take hx)⟩
theorem IsP.may {k:Int} {l:Tab} (h:IsP k l):GMay k (l.length - k):=by
 have h1:=h.1
 have h2:=h.2.1
 have:=h.2.2.2
 unfold encR at this
 split at this
 ·rename_i hP
  have hM:=hP.1
  have e:((l.take k.toNat).length:Int)=k:=by simp;omega
  rwa [e] at hM
 ·cases this
@[simp] theorem str_S (l:List UInt8):AV.str { data:=l.toArray } = S l:=id rfl
theorem Aa3 (k m:Int) (l:List Int) (hl:l.length < 2 ^ 60) {h:Heap} {x:AV} (hx:snap h true 2 x=some (IL l)):CSem Tryz.prog 116 [.int .i64 k,.int .i64 m,x] h fun x' h'=>x'=rL (decR k m l).1 (decR k m l).2∧h'=h :=
 (A9w k m l hl).pure.call (k:=2) (by simp [hx])
theorem Sz {P:Program} {t:TypeId} {b off n c z:Nat} {lo hi:Option AV} (hz:(elT P t).bind (szT P)=some z) :
  F9 P t (.sl b off n c z) lo hi none=(Bq c hi n).bind fun h=>(Bq h lo 0).map fun l=> .sl b (off+l * z) (h - l) (c - l) z:=by
 obtain ⟨e,he,hz⟩:=Option.bind_eq_some_iff.1 hz
 simp only [F9,Bu he,hz]
 simp
 cases Bq c hi n with
 | none=>rfl
 | some h =>
  simp only [Option.bind_some]
  cases Bq h lo 0<;>rfl
def Fq:Nat→List Bool→List Int
 | _,[]=>[]
 | i,b :: l=>if b=true then (i:Int) :: Fq (i+1) l else Fq (i+1) l
def nums (have_:List Bool):List Int:=Fq 0 have_
def left (l:Tab) (have_:List Bool):Tab:=((l.zip have_).filter fun p=>p.2).map (·.1)
theorem Vq:∀ (l:List Bool) (i:Nat) (b:Bool),Fq i (l ++ [b])=Fq i l ++ (if b=true then [((i+l.length:Nat):Int)] else [])
 | [],i,b=>by cases b<;>simp [Fq]
 | c :: l,i,b=>by
  have:=Vq l (i+1) b
  cases c<;>simp only [List.cons_append,Fq,this,List.length_cons]<;>cases b<;>simp<;>omega
theorem Aa4 {l:Tab} {have_:List Bool} (he:l.length=have_.length) (x:List UInt8) (b:Bool):left (l ++ [x]) (have_ ++ [b])=left l have_ ++ (if b=true then [x] else []):=by
 unfold left
 rw [List.zip_append he,List.filter_append,List.map_append]
 cases b<;>simp
theorem Uh {l:Tab} {have_:List Bool} (h:Sm l):Sm (left l have_):=by
 have hm:∀ x∈left l have_,x∈l:=by
  intro x hx
  obtain ⟨p,hp,rfl⟩:=List.mem_map.1 hx
  exact (List.of_mem_zip (List.mem_filter.1 hp).1).1
 refine ⟨?_,fun x hx=>h.2 x (hm x hx)⟩
 have h1:=h.1
 have:(left l have_).length≤l.length:=by
  unfold left
  rw [List.length_map]
  exact Nat.le_trans (List.length_filter_le _ _) (by simp;omega)
 omega
theorem Mu {l:Tab} {have_:List Bool} (he:have_.length=l.length):(left l have_).length=(nums have_).length:=by
 unfold nums
 suffices H:∀ (i:Nat) (l:Tab) (b:List Bool),b.length=l.length→(left l b).length=(Fq i b).length from H 0 l have_ he
 intro i l b
 induction b generalizing i l with
 | nil=>intro he;simp [left,Fq]
 | cons c b ih =>
  intro he
  cases l with
  | nil=>simp at he
  | cons x l =>
   have:=ih (i+1) l (by simpa using he)
   simp only [left] at this
   cases c<;>simp [left,Fq,this]
def DkP (k:Int) (l:Tab) (have_:List Bool):Prop:=have_.length=l.length∧1≤k∧GMay k (l.length - k)
instance (k:Int) (l:Tab) (have_:List Bool):Decidable (DkP k l have_):=by unfold DkP;exact inferInstance
def decE (k:Int) (l:Tab) (have_:List Bool):Int:=if ¬DkP k l have_ then 1 else if ¬Fp (left l have_) then 1 else if ((left l have_).length:Int) < k then 3 else 0
def decD (k:Int) (l:Tab) (have_:List Bool):Tab×Int :=
 if decE k l have_=0 then if (decR k (l.length - k) (nums have_)).2=0 then (Ea (decR k (l.length - k) (nums have_)).1 ((left l have_).take k.toNat),0) else ([],(decR k (l.length - k) (nums have_)).2)
 else ([],decE k l have_)
def DdInv (k:Int) (l:Tab) (have_:List Bool) (i:Nat) (r:Regs) (h:Heap):Prop :=
 i≤l.length∧rg r 0 = .int .i64 k∧rg r 1=SL l∧rg r 2=OL have_∧rg r 32=SL l∧rg r 33 = .int .i64 l.length∧rg r 34 = .int .i64 i∧Own h (rg r 8) ((left (l.take i) (have_.take i)).map S)∧Own h (rg r 9) ((nums (have_.take i)).map I64) ∧
 ∀ b1 b2 o1 n1 c1 z1 o2 n2 c2 z2,rg r 8 = .sl b1 o1 n1 c1 z1→rg r 9 = .sl b2 o2 n2 c2 z2→b1≠b2
theorem A89 {k m:Int} {l:List Int} : Sm (decR k m l).1:=by
 by_cases hc:Ly k m l=0
 ·obtain ⟨s,hM,ho,hkl,hs,hsq,hsr,hdec⟩:=A10 hc
  have hk:=hM.2.2.1
  rw [hdec]
  refine ⟨by rw [hsr.len];omega,fun x hx=> ?_⟩
  obtain ⟨j,hj,rfl⟩:=List.getElem_of_mem hx
  have:=hsr.row j (by rw [←hsr.len];exact hj)
  rw [rowN,List.getElem?_eq_getElem hj] at this
  rw [show s.2[j].length=k.toNat from this]
  omega
 ·rw [(Ad5 (k:=k) (m:=m) (l:=l)).2 hc]
  exact ⟨μ,μ⟩
theorem A14 (k:Int) (l:Tab) (have_:List Bool) (h:Sm l) (hk:(Lit.int .i64 k).wf=true) (hh:have_.length < 2 ^ 48):Jj Tryz.prog 88 [.int .i64 k,SL l,OL have_] (decD k l have_).1 (decD k l have_).2:=by
 refine CSem.body hm Tryz.func88 rfl κ κ (by simp [Tryz.ntmps88]) ?_
 have bad:¬DkP k l have_→decD k l have_=([],1):=fun h=>by
  have:decE k l have_=1:=by rw [decE,if_pos h]
  rw [decD,this];rfl
 by_cases h1:have_.length=l.length
 rotate_left
 ·simp [Tryz.f88,h1,bad (fun h=>h1 h.1),FrQ.nil]
 by_cases h2:k < 1
 ·simp [Tryz.f88,h1,h2,bad (fun h=>by have:=h.2.1;omega),FrQ.nil]
 have hl1:=h.1
 have hkb:=i64_of hk
 have hw:IntKind.i64.wrap ((l.length:Int) - k)=(l.length:Int) - k:=wrap64 ω ω
 simp [Tryz.f88,h1,h2,hw]
 refine (Sy _ _ _).use ?_
 by_cases hM:GMay k (l.length - k)
 rotate_left
 ·simp [hM,bad (fun h=>hM h.2.2),FrQ.nil]
 have hD:DkP k l have_:=⟨h1,ω,hM⟩
 simp [hM]
 refine Ar (DdInv k l have_) (l.length - ·) ?_ 0 ?_
 ·rintro i r hp ⟨hi,g0,g1,g2,g32,g33,g34,ho8,ho9,hne⟩
  rcases Nat.lt_or_eq_of_le hi with hlt|heq
  ·have hx:l[i]? = some l[i]:=List.getElem?_eq_getElem hlt
   have hlh:i < have_.length:=by omega
   have hy:have_[i]? = some have_[i]:=List.getElem?_eq_getElem hlh
   have htl:(l.take i).length=(have_.take i).length:=by simp [h1]
   have e1:left (l.take (i+1)) (have_.take (i+1))=left (l.take i) (have_.take i) ++ (if have_[i]=true then [l[i]] else []):=by
    rw [List.take_succ_eq_append_getElem hlt,List.take_succ_eq_append_getElem hlh,Aa4 htl]
   have e2:nums (have_.take (i+1))=nums (have_.take i) ++ (if have_[i]=true then [(i:Int)] else []):=by
    rw [List.take_succ_eq_append_getElem hlh,nums,Vq]
    have:0+(have_.take i).length=i:=by simp;omega
    rw [this]
    rfl
   cases hb:have_[i] with
   | false =>
    simp [g0,g1,g2,g32,g33,g34,hlt,hx,hlh,hy,hb]
    refine ⟨i+1,ω,ω,by simp [g0],by simp [g1],by simp [g2],by simp [g32],by simp [g33],by simp [wrap64 (n:=(i:Int)+1) ω ω],?_,?_,?_⟩
    ·rw [e1,hb];simpa using ho8
    ·rw [e2,hb];simpa using ho9
    ·simpa using hne
   | true =>
    have hlen8:((left (l.take i) (have_.take i)).map S).length < 2 ^ 40:=by
     rw [List.length_map];exact (Uh (h.take i)).1
    have hlen9:((nums (have_.take i)).map I64).length < 2 ^ 40:=by
     rw [List.length_map,←Mu (l:=l.take i) (by simp [h1])];exact (Uh (h.take i)).1
    obtain ⟨x',h',e,ho',hnx,hat,hk2⟩:=H7 (P:=Tryz.prog) (t:=51) (xt:=51) κ ho8 hlen8 (Jk l[i])
    have ho9':Own h' (rg r 9) ((nums (have_.take i)).map I64):=by
     rcases ho9 with h|⟨b,hb2,hg⟩
     ·exact .inl h
     ·exact .inr ⟨b,hb2,hk2 _ _ hg fun off n c z e8=>hne _ _ _ _ _ _ _ _ _ _ e8 hb2 rfl⟩
    obtain ⟨y',h'',e',ho'',hnx',hat',hk2'⟩:=H7 (P:=Tryz.prog) (t:=74) (xt:=74) κ ho9' hlen9 (Ad8 (i:Int))
    simp only [I64] at e'
    simp [g0,g1,g2,g32,g33,g34,hlt,hx,hlh,hy,hb,Bt (P:=Tryz.prog) (t:=51) (xt:=51) κ,Bt (P:=Tryz.prog) (t:=74) (xt:=74) κ,e,e']
    refine ⟨i+1,ω,ω,by simp [g0],by simp [g1],by simp [g2],by simp [g32],by simp [g33],by simp [wrap64 (n:=(i:Int)+1) ω ω],?_,?_,?_⟩
    ·rw [e1,hb]
     simp
     have ho3:Own h' x' (left (l.take i) (have_.take i) |>.map S |>.append [S l[i]]):=ho'
     rcases ho' with ⟨q1,q2⟩|⟨b,q1,q2⟩
     ·simp at q2
     ·refine .inr ⟨b,by simpa using q1,?_⟩
      have:=hk2' b _ q2 fun off n c z e9=> ?_
      ·simpa using this
      ·have a1:=hat.2 _ _ _ _ _ q1
       rcases ho9 with ⟨p1,_⟩|⟨b9,p1,p2⟩
       ·rw [p1] at e9;cases e9
       ·rw [p1] at e9
        cases e9
        have:=Heap.Ah p2
        omega
    ·rw [e2,hb]
     simpa using ho''
    ·intro b1 b2 o1 n1 c1 z1 o2 n2 c2 z2 q1 q2
     simp at q1 q2
     have a2:=hat'.2 _ _ _ _ _ q2
     rcases ho' with ⟨p1,_⟩|⟨b8,p1,p2⟩
     ·rw [p1] at q1;cases q1
     ·rw [p1] at q1
      cases q1
      have:=Heap.Ah p2
      omega
  ·have hth:have_.take l.length=have_:=by rw [←h1,List.take_length]
   rw [heq,List.take_length,hth] at ho8
   rw [heq,hth] at ho9
   have hsn8:∀ k,snap hp true (k+2) (rg r 8)=some (SL (left l have_)):=fun k=>ho8.snap (fun _=>rfl)
   have hsn9:snap hp true 2 (rg r 9)=some (IL (nums have_)):=ho9.snap (fun _=>rfl)
   have hlsm:=Uh (have_:=have_) h
   have hnl:=Mu h1
   simp [g0,g1,g2,g32,g33,g34,heq]
   refine (Vn (left l have_) (by have:=hlsm.1;omega) (hsn8 0)).use ?_
   by_cases hE:Fp (left l have_)
   rotate_left
   ·have:decE k l have_=1:=by rw [decE,if_neg (fun h=>h hD),if_pos hE]
    simp [hE,decD,this,FrQ.nil]
   have hlen:lenX Tryz.prog 51 (rg r 8)=some (.int .i64 ((left l have_).length:Int)):=by
    rcases ho8 with ⟨p1,p2⟩|⟨b,p1,p2⟩
    ·have:left l have_=[]:=by simpa using p2
     rw [p1,this];rfl
    ·rw [p1];simp
   simp [hE,hlen,g0]
   by_cases hf:((left l have_).length:Int) < k
   ·have:decE k l have_=3:=by rw [decE,if_neg (fun h=>h hD),if_neg (fun h=>h hE),if_pos hf]
    simp [hf,decD,this,FrQ.nil]
   have hz:decE k l have_=0:=by rw [decE,if_neg (fun h=>h hD),if_neg (fun h=>h hE),if_neg hf]
   simp [hf,g0,g1,hw]
   refine (Aa3 k _ (nums have_) (by have:=hlsm.1;omega) hsn9).use ?_
   by_cases hr:(decR k (l.length - k) (nums have_)).2=0
   rotate_left
   ·simp [rL,hr,decD,hz,FrQ.nil]
   simp [rL,hr,g0]
   rcases ho8 with ⟨p1,p2⟩|⟨b,p1,p2⟩
   ·exfalso
    have:left l have_=[]:=by simpa using p2
    rw [this] at hf
    simp at hf
    omega
   have hk0:0≤k:=by omega
   have hkl:k≤((left l have_).length:Int):=by omega
   have hsl:F9 Tryz.prog 51 (.sl b 0 (left l have_).length (left l have_).length 1) none (some (.int .i64 k)) none=some (.sl b 0 k.toNat (left l have_).length 1):=by
    rw [Sz (z:=1) κ]
    simp [hk0,hkl]
   simp [p1,p2,hsl]
   have hs9:snap hp true 2 (.sl b 0 k.toNat (left l have_).length 1)=some (SL ((left l have_).take k.toNat)):=by
    refine R6 (f:=S) p2 ?_ (by simp;omega) (fun _ _=>rfl)
    simp [takeN]
    omega
   refine (Vp (decR k (l.length - k) (nums have_)).1 ((left l have_).take k.toNat) A89 (hlsm.take _) μ hs9).then ?_
   rintro x h' ⟨hq,rfl⟩
   simp [decD,hz,hr]
   exact hq.tup
 ·exact ⟨Nat.zero_le _,μ,μ,μ,μ,μ,μ,.inl ⟨μ,by simp [left]⟩,.inl ⟨μ,by simp [nums,Fq]⟩,μ⟩
@[simp] theorem binX_bool {P:Program} {t:TypeId} (ht:P.underlying t=some .bool) {a b:Bool} : binX P .eql t (.bool a) (.bool b)=some (.bool (decide (a=b))):=by
 simp [binX,eqX,ht,tyK,AV.cls]
 rw [Bool.eq_iff_iff];simp
section
variable {h:Heap} {x y:AV}
end
theorem G8 {c:List UInt8} {l:Tab} {j:Nat} (hj:j < (row0 l).length):(Bz c l)[j]?.getD 0=sm l.length fun k=>gm (c[k]?.getD 0) (ent l k j):=by
 rw [Bz,List.getElem?_map,List.getElem?_range hj]
 rfl
theorem Ad9 {b:Tab} (hb:0 < b.length) (f:List UInt8→List UInt8):row0 (b.map f)=f (row0 b):=by
 simp [row0,List.getElem?_eq_getElem hb]
theorem Rc {r:List UInt8} {b c:Tab} (hb:0 < b.length) (hc:(row0 b).length=c.length):Bz (Bz r b) c=Bz r (b.map fun row=>Bz row c):=by
 apply List.ext_getElem?
 intro j
 have h0:(row0 (b.map fun row=>Bz row c)).length=(row0 c).length:=by rw [Ad9 hb,Fj]
 by_cases hj:j < (row0 c).length
 ·have h1:(Bz (Bz r b) c)[j]? = some ((Bz (Bz r b) c)[j]?.getD 0):=by
   rw [List.getElem?_eq_getElem (by rw [Fj];exact hj)];rfl
  have h2:(Bz r (b.map fun row=>Bz row c))[j]? = some ((Bz r (b.map fun row=>Bz row c))[j]?.getD 0):=by
   rw [List.getElem?_eq_getElem (by rw [Fj,h0];exact hj)];rfl
  rw [h1,h2,G8 hj,G8 (by rw [h0];exact hj),List.length_map]
  congr 1
  have e1:∀ l,l < c.length→gm ((Bz r b)[l]?.getD 0) (ent c l j)=sm b.length fun k=>gm (gm (r[k]?.getD 0) (ent b k l)) (ent c l j):=by
   intro l hl
   rw [G8 (by rw [hc];exact hl),Mv]
  have e2:∀ k,k < b.length→gm (r[k]?.getD 0) (ent (b.map fun row=>Bz row c) k j)=sm c.length fun l=>gm (r[k]?.getD 0) (gm (ent b k l) (ent c l j)):=by
   intro k hk
   rw [A15]
   congr 1
   have:ent (b.map fun row=>Bz row c) k j=(Bz (rowN b k) c)[j]?.getD 0:=by
    simp [ent,rowN,List.getElem?_eq_getElem hk]
   rw [this,G8 hj]
   rfl
  rw [Bw e1,Bw e2,Re]
  exact Bw fun k _=>Bw fun l _=>Cv _ _ _
 ·rw [List.getElem?_eq_none (by rw [Fj];omega),List.getElem?_eq_none (by rw [Fj,h0];omega)]
theorem Ak7 {a:Tab} (ha:MayP a) {i:Nat} (hi:i < a.length):Bz (Cu a.length i) a=a[i]:=by
 have hl:a[i].length=(row0 a).length:=ha.2.2.2.2 _ (List.getElem_mem hi)
 apply List.ext_getElem?
 intro j
 by_cases hj:j < (row0 a).length
 ·have h1:(Bz (Cu a.length i) a)[j]? = some ((Bz (Cu a.length i) a)[j]?.getD 0):=by
   rw [List.getElem?_eq_getElem (by rw [Fj];exact hj)];rfl
  rw [h1,G8 hj,List.getElem?_eq_getElem (by rw [hl];exact hj)]
  congr 1
  have e:∀ k,k < a.length→gm ((Cu a.length i)[k]?.getD 0) (ent a k j)=gm (i1 i k) (ent a k j):=by
   intro k hk
   have:=H9 (n:=a.length) hi hk
   rw [ent,rowN,Bs,List.getElem?_map,List.getElem?_range hi] at this
   rw [←this]
   rfl
  rw [Bw e,Yy hi,ent,rowN,List.getElem?_eq_getElem hi]
  simp [List.getElem?_eq_getElem (show j < a[i].length by omega)]
 ·rw [List.getElem?_eq_none (by rw [Fj];omega),List.getElem?_eq_none ω]
theorem A16 (k:Int) (l:Tab) (have_:List Bool) (h:Sm l) (hk:(Lit.int .i64 k).wf=true) (hh:have_.length < 2 ^ 48) {hp:Heap} {x y:AV} (hx:snap hp true 2 x=some (SL l)) (hy:snap hp true 2 y=some (OL have_)) :
  CSem Tryz.prog 88 [.int .i64 k,x,y] hp fun x' h'=>x'=rL (decD k l have_).1 (decD k l have_).2∧h'=hp:=(A14 k l have_ h hk hh).pure.call (k:=2) (by simp [hx,hy])
def cnt (have_:List Bool):Nat:=(have_.filter id).length
theorem A2w {data:Tab} {m:Nat} : (encL data m).length=data.length+m:=by simp [encL,Ea,Hr]
theorem A66 {rows data:Tab} (hr:Sm rows) (hd:Sm data):Sm (Ea rows data):=by
 refine ⟨by simp [Ea];exact hr.1,fun x hx=> ?_⟩
 obtain ⟨row,_,rfl⟩:=List.mem_map.1 hx
 unfold Fh
 split
 ·rename_i h
  obtain ⟨h1,h2,h3⟩:=h
  have hp:0 < data.length:=List.length_pos_iff.2 h2
  have h0:data[0]? = some data[0]:=List.getElem?_eq_getElem hp
  simp only [Option.getD_some]
  rw [Kn]
  ·rw [h0];exact hd.2 _ (List.getElem_mem hp)
  ·intro y hy
   obtain ⟨j,hj,rfl⟩:=List.getElem_of_mem hy
   have hjl:j < data.length:=by simp [scaled] at hj;omega
   have:=h3 data[j] (List.getElem_mem _)
   rw [←this]
   simp [scaled,List.getElem_zipWith,Cq]
 ·simp
theorem Agy {k:Int} {l:Tab} {have_:List Bool} (h:Sm l):Sm (decD k l have_).1:=by
 unfold decD
 split
 ·split
  ·exact A66 A89 ((Uh h).take _)
  ·exact ⟨μ,μ⟩
 ·exact ⟨μ,μ⟩
theorem Rf {a:Tab} (ha:Fp a) {i:Nat} (hi:i < a.length):Bz (Cu a.length i) a=a[i]:=by
 have hl:a[i].length=(row0 a).length:=ha _ (List.getElem_mem hi)
 apply List.ext_getElem?
 intro j
 by_cases hj:j < (row0 a).length
 ·have h1:(Bz (Cu a.length i) a)[j]? = some ((Bz (Cu a.length i) a)[j]?.getD 0):=by
   rw [List.getElem?_eq_getElem (by rw [Fj];exact hj)];rfl
  rw [h1,G8 hj,List.getElem?_eq_getElem (by rw [hl];exact hj)]
  congr 1
  have e:∀ k,k < a.length→gm ((Cu a.length i)[k]?.getD 0) (ent a k j)=gm (i1 i k) (ent a k j):=by
   intro k hk
   have:=H9 (n:=a.length) hi hk
   rw [ent,rowN,Bs,List.getElem?_map,List.getElem?_range hi] at this
   rw [←this]
   rfl
  rw [Bw e,Yy hi,ent,rowN,List.getElem?_eq_getElem hi]
  simp [List.getElem?_eq_getElem (show j < a[i].length by omega)]
 ·rw [List.getElem?_eq_none (by rw [Fj];omega),List.getElem?_eq_none ω]
theorem Mw {rows data:Tab} (hr:∀ x∈rows,x.length=data.length) (hd:data≠[]) (he:Fp data):Ea rows data=rows.map fun r=>Bz r data:=by
 apply List.map_congr_left
 intro r hm
 rw [Y9 (hr r hm) hd he]
 rfl
theorem Z0 {k m:Nat} {data:Tab} (hk:data.length=k):∀ x∈genL k m,x.length=data.length:=fun x hx=>by rw [Vg hx,hk]
theorem Ada {data:Tab} {m i:Nat} (hd:data≠[]) (he:Fp data) (hi:i < data.length+m):(encL data m)[i]? = some (Bz (rowN (genL data.length m) i) data):=by
 rw [encL,Mw (Z0 rfl) hd he,List.getElem?_map,rowN,List.getElem?_eq_getElem (by rw [Hr];exact hi)]
 rfl
theorem A2x {data:Tab} {m:Nat} (hd:data≠[]) (he:Fp data):∀ x∈encL data m,x.length=(row0 data).length:=by
 intro x hx
 rw [encL,Mw (Z0 rfl) hd he] at hx
 obtain ⟨r,_,rfl⟩:=List.mem_map.1 hx
 exact Fj
theorem A17 {l:Tab} {w:Nat} (h:∀ x∈l,x.length=w):Fp l:=by
 intro x hx
 cases l with
 | nil=>cases hx
 | cons y l=>simp;rw [h x hx,h y μ]
theorem GMay.ne {data:Tab} {m:Int} (h:GMay data.length m):data≠[]:=by
 intro e
 have:=h.1
 rw [e] at this
 simp at this
theorem Nz:∀ {l:List Bool} {i:Nat} {x:Int},x∈Fq i l→∃ j:Nat,x=((i+j:Nat):Int)∧l[j]? = some true
 | b :: l,i,x,h=>by
  unfold Fq at h
  split at h
  ·rename_i hb
   rcases List.mem_cons.1 h with rfl|h
   ·exact ⟨0,μ,by simp [hb]⟩
   ·obtain ⟨j,h1,h2⟩:=Nz h
    exact ⟨j+1,by rw [h1];congr 1;omega,by simpa using h2⟩
  ·obtain ⟨j,h1,h2⟩:=Nz h
   exact ⟨j+1,by rw [h1];congr 1;omega,by simpa using h2⟩
theorem Lz:∀ (l:List Bool) (i:Nat),(Fq i l).Pairwise (· < ·)
 | [],i=> .nil
 | b :: l,i=>by
  unfold Fq
  split
  ·refine .cons (fun x hx=> ?_) (Lz l (i+1))
   obtain ⟨j,h1,_⟩:=Nz hx
   omega
  ·exact Lz l (i+1)
theorem Agz {have_:List Bool} {n:Int} (hn:(have_.length:Int)≤n):okH n (-1) (nums have_)=true:=by
 refine Ad3 (fun x hx=> ?_) (Lz _ _)
 obtain ⟨j,h1,h2⟩:=Nz hx
 have:=(List.getElem?_eq_some_iff.1 h2).1
 omega
theorem Vr:∀ {l:Tab} {have_:List Bool} {i j:Nat},have_.length=l.length→(Fq i have_)[j]? ≠ none→∃ q,(Fq i have_)[j]? = some ((i+q:Nat):Int)∧q < l.length∧have_[q]? = some true∧(left l have_)[j]? = l[q]? ∧ cnt (have_.take q)=j
 | l,[],i,j,he,h=>by simp [Fq] at h
 | [],b :: have_,i,j,he,h=>by simp at he
 | x :: l,b :: have_,i,j,he,h=>by
  have he':have_.length=l.length:=by simpa using he
  have hcons:left (x :: l) (b :: have_)=(if b=true then [x] else []) ++ left l have_:=by cases b<;>simp [left]
  cases b with
  | false =>
   simp only [Fq] at h ⊢
   obtain ⟨q,h1,h2,h3,h4,h5⟩:=Vr he' h
   refine ⟨q+1,by rw [if_neg μ,h1];congr 2;omega,by simp;omega,by simpa using h3,?_,by simp [cnt] at h5 ⊢;exact h5⟩
   rw [hcons];simpa using h4
  | true =>
   simp only [Fq,if_true] at h ⊢
   cases j with
   | zero=>exact ⟨0,μ,μ,μ,by rw [hcons];simp,by simp [cnt]⟩
   | succ j =>
    obtain ⟨q,h1,h2,h3,h4,h5⟩:=Vr (i:=i+1) he' (by simpa using h)
    refine ⟨q+1,by simp only [List.getElem?_cons_succ];rw [h1];congr 2;omega,by simp;omega,by simpa using h3,?_,by simp [cnt] at h5 ⊢;exact h5⟩
    rw [hcons];simpa using h4
theorem A2y:∀ (l:List Bool) (i:Nat),(Fq i l).length=cnt l
 | [],i=>rfl
 | b :: l,i=>by
  have:=A2y l (i+1)
  cases b<;>simp [Fq,cnt] at this ⊢<;>exact this
structure Dec (k:Int) (l:Tab) (have_:List Bool) (d:Tab):Prop where
 ok:decD k l have_=(d,0)
 may:GMay k (l.length - k)
 len:d.length=k.toNat
 few:k≤((left l have_).length:Int)
 row:∀ x∈d,x.length=(row0 ((left l have_).take k.toNat)).length

 back:∀ j,j < k.toNat→∃ q:Nat,(nums have_)[j]? = some (q:Int)∧q < l.length∧have_[q]? = some true∧cnt (have_.take q)=j∧(left l have_)[j]? = l[q]? ∧ some (Bz (rowN (genL k.toNat (l.length - k).toNat) q) d)=l[q]?
 turn:∃ R:Tab,d=R.map (fun r=>Bz r ((left l have_).take k.toNat))∧Sq k.toNat R∧∀ i,i < k.toNat→Bz (rowN R i) (Dj k.toNat (l.length - k).toNat (nums have_))=Cu k.toNat i
theorem A2z {n:Nat} {a b:Tab} (ha:Sq n a) (hb:Sq n b) (h1:1≤n) (hm:∀ i j,i < n→j < n→mm n (ent a) (ent b) i j=i1 i j) {i:Nat} (hi:i < n):Bz (rowN a i) b=Cu n i:=by
 have hb0:(row0 b).length=n:=hb.row 0 h1
 apply List.ext_getElem?
 intro j
 by_cases hj:j < n
 ·have e1:(Bz (rowN a i) b)[j]? = some ((Bz (rowN a i) b)[j]?.getD 0):=by
   rw [List.getElem?_eq_getElem (by rw [Fj,hb0];exact hj)];rfl
  have e2:(Cu n i)[j]? = some (i1 i j):=by
   have:=H9 (n:=n) hi hj
   rw [ent,rowN,Bs,List.getElem?_map,List.getElem?_range hi] at this
   simp only [Option.map_some,Option.getD_some] at this
   rw [←this,List.getElem?_eq_getElem (by simp [Cu];exact hj)]
   rfl
  rw [e1,e2,G8 (by rw [hb0];exact hj),hb.len]
  congr 1
  exact hm i j hi hj
 ·rw [List.getElem?_eq_none (by rw [Fj,hb0];omega),List.getElem?_eq_none (by simp [Cu];omega)]
theorem A18 {k:Int} {l:Tab} {have_:List Bool} (hz:decE k l have_=0):∃ d,Dec k l have_ d:=by
 have hD:DkP k l have_:=by
  by_cases hD:DkP k l have_
  ·exact hD
  ·rw [decE,if_pos hD] at hz;cases hz
 have hE:Fp (left l have_):=by
  by_cases hE:Fp (left l have_)
  ·exact hE
  ·rw [decE,if_neg (fun h=>h hD),if_pos hE] at hz;cases hz
 have hf:¬((left l have_).length:Int) < k:=by
  intro hf
  rw [decE,if_neg (fun h=>h hD),if_neg (fun h=>h hE),if_pos hf] at hz;cases hz
 have hM:=hD.2.2
 have hnl:=Mu hD.1
 have hc:Ly k (l.length - k) (nums have_)=0:=by
  rw [Ly,if_neg (fun h=>h hM),if_neg (by rw [Agz (by rw [hD.1];omega)];simp),if_neg (by rw [←hnl];exact hf)]
 obtain ⟨s,_,ho,hkl,hs,hsq,hsr,hdec⟩:=A10 hc
 have n1:1≤k.toNat:=by have:=hM.1;omega
 have hLl:((left l have_).take k.toNat).length=k.toNat:=by simp;omega
 have hLe:Fp ((left l have_).take k.toNat):=A17 (w:=(row0 (left l have_)).length) fun x hx=>hE x (List.mem_of_mem_take hx)
 have hLn:(left l have_).take k.toNat≠[]:=by intro e;rw [e] at hLl;simp at hLl;omega
 have hRr:∀ x∈s.2,x.length=((left l have_).take k.toNat).length:=fun x hx=>by
  obtain ⟨j,hj,rfl⟩:=List.getElem_of_mem hx
  have:=hsr.row j (by rw [←hsr.len];exact hj)
  rw [rowN,List.getElem?_eq_getElem hj] at this
  rw [hLl];exact this
 have hsp:=Mw hRr hLn hLe
 refine ⟨s.2.map (fun r=>Bz r ((left l have_).take k.toNat)),?_,hM,by simp [hsr.len],ω,?_,?_,s.2,rfl,hsr,fun i hi=>A2z hsr hsq n1 (A8a hsq hs) hi⟩
 ·rw [decD,if_pos hz,hdec]
  simp [hsp]
 ·intro x hx
  obtain ⟨r,_,rfl⟩:=List.mem_map.1 hx
  exact Fj
 ·intro j hj
  have hjn:(nums have_)[j]? ≠ none:=by
   have:j < (nums have_).length:=by rw [←hnl];omega
   rw [List.getElem?_eq_getElem this];simp
  obtain ⟨q,q1,q2,q3,q4,q5⟩:=Vr (i:=0) hD.1 hjn
  rw [Nat.zero_add] at q1
  refine ⟨q,q1,q2,q3,q5,q4,?_⟩
  rw [←Rc (by rw [hsr.len];exact n1) (by rw [show (row0 s.2).length=k.toNat from hsr.row 0 n1,hLl])]
  have hp:rowN (genL k.toNat (l.length - k).toNat) q=rowN (Dj k.toNat (l.length - k).toNat (nums have_)) j:=by
   have hjt:((nums have_).take k.toNat)[j]? = some (q:Int):=by rw [List.getElem?_take,if_pos hj];exact q1
   rw [Dj,rowN,rowN,List.getElem?_map,hjt]
   rfl
  rw [hp,A2z hsq hsr n1 (Adb hsq hs) hj]
  have hjl:j < ((left l have_).take k.toNat).length:=by omega
  have hu:=Rf hLe hjl
  rw [hLl] at hu
  rw [hu,←q4]
  have:((left l have_).take k.toNat)[j]? = (left l have_)[j]? := by rw [List.getElem?_take,if_pos hj]
  rw [←this,List.getElem?_eq_getElem hjl]
theorem Adc {k:Int} {l:Tab} {have_:List Bool} : (decD k l have_).2=decE k l have_∧(decE k l have_≠0→(decD k l have_).1=[]):=by
 by_cases hz:decE k l have_=0
 ·obtain ⟨d,hd⟩:=A18 hz
  exact ⟨by rw [hd.ok,hz],fun h=>(h hz).elim⟩
 ·rw [decD,if_neg hz]
  exact ⟨rfl,fun _=>rfl⟩
theorem Dec.Ade {data:Tab} {m:Nat} {l:Tab} {have_:List Bool} {d:Tab} (h:Dec data.length l have_ d) (hP:EncP data m) (hl:l.length=data.length+m) (hh:have_.length=l.length) (he:∀ i:Nat,have_[i]? = some true→l[i]? = (encL data m)[i]?):d=data:=by
 obtain ⟨R,hd,hR,hu⟩:=h.turn
 have hE:=hP.2
 have hdn:=hP.1.ne
 have hk:((data.length:Int)).toNat=data.length:=by simp
 have hm:((l.length:Int) - data.length).toNat=m:=by omega
 rw [hk,hm] at hu
 rw [hk] at hd hR
 have n1:1≤data.length:=List.length_pos_iff.2 hdn
 have hfew:=h.few
 have hL:(left l have_).take data.length=(Dj data.length m (nums have_)).map fun r=>Bz r data:=by
  apply List.ext_getElem?
  intro j
  by_cases hj:j < data.length
  ·obtain ⟨q,q1,q2,q3,q4,q5,q6⟩:=h.back j (by rw [hk];exact hj)
   rw [List.getElem?_take,if_pos hj,q5,he q q3,Ada hdn hE ω,List.getElem?_map,Dj,List.getElem?_map]
   have hjt:((nums have_).take data.length)[j]? = some (q:Int):=by rw [List.getElem?_take,if_pos hj];exact q1
   rw [hjt]
   rfl
  ·rw [List.getElem?_eq_none (by simp;omega),List.getElem?_eq_none (by simp [Dj];omega)]
 have hnl:=Mu hh
 have hpl:(Dj data.length m (nums have_)).length=data.length:=by simp [Dj];omega
 rw [hd]
 apply List.ext_getElem?
 intro i
 rw [List.getElem?_map]
 by_cases hi:i < data.length
 ·have hiR:i < R.length:=by rw [hR.len];exact hi
  rw [List.getElem?_eq_getElem hiR,Option.map_some,hL]
  have hRi:R[i]=rowN R i:=by rw [rowN,List.getElem?_eq_getElem hiR];rfl
  have hp0:(row0 (Dj data.length m (nums have_))).length=data.length:=by
   obtain ⟨q,q1,q2,q3,q4,q5,q6⟩:=h.back 0 (by rw [hk];exact n1)
   have hjt:((nums have_).take data.length)[0]? = some (q:Int):=by rw [List.getElem?_take,if_pos (show 0 < data.length from n1)];exact q1
   rw [row0,Dj,List.getElem?_map,hjt]
   exact R9 ω
  rw [←Rc (by rw [hpl];exact n1) hp0,hRi,hu i hi,Rf hE hi,List.getElem?_eq_getElem hi]
 ·rw [List.getElem?_eq_none (by rw [hR.len];omega),List.getElem?_eq_none ω]
  rfl
theorem M0 {a b:Tab} {k j:Nat} (hl:a.length=b.length) (hk:k < a.length) (hr:(rowN a k).length=(rowN b k).length):ent (List.zipWith xorL a b) k j=ent a k j ^^^ ent b k j:=by
 have h1:rowN (List.zipWith xorL a b) k=xorL (rowN a k) (rowN b k):=by
  simp [rowN,List.getElem?_zipWith,List.getElem?_eq_getElem hk,List.getElem?_eq_getElem (show k < b.length by omega)]
 unfold ent
 rw [h1]
 by_cases hj:j < (rowN a k).length
 ·simp [xorL,List.getElem?_zipWith,List.getElem?_eq_getElem hj,List.getElem?_eq_getElem (show j < (rowN b k).length by omega)]
 ·rw [List.getElem?_eq_none (by simp [xorL];omega),List.getElem?_eq_none ω,List.getElem?_eq_none ω]
  rfl
end Go.Proofs.YtmbndhciflilbaaGreatDoor.X
namespace Go.Proofs.YtmbndhciflilbaaGreatDoor.F
def le (n:Nat):Nat→List UInt8
 | 0=>[]
 | k+1=>UInt8.ofNat (n % 256) :: le (n / 256) k
def unle:List UInt8→Nat
 | []=>0
 | b :: l=>b.toNat+256 * unle l
@[simp] theorem P0:∀ (k n:Nat),(le n k).length=k
 | 0,_=>rfl
 | k+1,n=>by simp [le,P0 k]
theorem A8b:∀ l:List UInt8,unle l < 256 ^ l.length
 | []=>by simp [unle]
 | b :: l=>by
  have h1:=A8b l
  have h2:b.toNat < 256:=b.toNat_lt
  simp only [unle,List.length_cons,Nat.pow_succ]
  omega
theorem A19:∀ (k n:Nat),n < 256 ^ k→unle (le n k)=n
 | 0,n,h=>by simp at h;simp [le,unle,h]
 | k+1,n,h=>by
  have h1:n / 256 < 256 ^ k:=by
   rw [Nat.pow_succ] at h
   omega
  simp only [le,unle,A19 k _ h1,UInt8.toNat_ofNat']
  omega
theorem le_get (k n i:Nat) (hi:i < k):(le n k)[i]? = some (UInt8.ofNat (n / 256 ^ i % 256)):=by
 induction k generalizing n i with
 | zero=>omega
 | succ k ih =>
  cases i with
  | zero=>simp [le]
  | succ i =>
   simp only [le,List.getElem?_cons_succ]
   rw [ih _ _ ω,Nat.div_div_eq_div_mul,Nat.pow_succ,Nat.mul_comm]
def dv (n i:Nat):Nat:=n / 256 ^ i
theorem Ah0 (n:Nat):dv n 0=n:=by simp [dv]
theorem Ah1 (n i:Nat):dv n i / 256=dv n (i+1):=by simp only [dv];rw [Nat.div_div_eq_div_mul,←Nat.pow_succ]
theorem dv_le (n i:Nat):dv n i≤n:=Nat.div_le_self _ _
theorem Adf {n i:Nat} : 0 < dv n i↔256 ^ i≤n:=by
 have hp:0 < 256 ^ i:=Nat.pow_pos ω
 simp only [dv]
 constructor
 ·intro h
  rcases Nat.lt_or_ge n (256 ^ i) with h1|h1
  ·rw [Nat.div_eq_of_lt h1] at h;omega
  ·exact h1
 ·intro h;exact Nat.div_pos h hp
end Go.Proofs.YtmbndhciflilbaaGreatDoor.F
